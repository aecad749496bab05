/- Texts of the proof, joined. -/
import Derived.Test.YtkjalpallcedmaaGreatDoorP5
import Derived.KernelRfl
set_option linter.defProp false
set_option linter.unusedVariables false
set_option linter.unusedSimpArgs false
set_option maxRecDepth 100000
open List
namespace Go.PL
open Go
def a9k{σ ρ S n:Type}{f:(σ->A3 ρ)->σ->A3 ρ}(l:O n)(e:S->Int->σ)(I:S->Nat->Prop)(Q:A3 ρ->Prop)(u:l.length<2^62)(b:∀a s(i:Nat)y,i<l.length->l[i]?=some y->I s i->Q (f a (e s (i:Int)))\/∃d,f a (e s (i:Int))=a (e d ((i+1:Nat):Int))/\I d (i+1))(c:∀a s,I s l.length->Q (f a (e s (l.length:Int))))(s:S)(o:I s 0):Q (d9 FU f (e s 0)):=by
 have g:∀(k:Nat)(s:S)(i:Nat),i<=l.length->I s i->l.length-i<k->Q (d9 k f (e s (i:Int))):=by intro k;induction k with|zero=>omega|succ k q=>
    intro s i t m r;show Q (f (d9 k f) (e s (i:Int)));by_cases h:i<l.length
    .rcases b (d9 k f) s i l[i] h (qG h) m with j|⟨d,j,p⟩;.omega
     .rw[j];exact q d (i+1) (by omega) p (by omega)
    .have:i=l.length:=by omega
     subst this;exact c _ _ m
 have:(0:Int)=((0:Nat):Int):=rfl;exact g FU s 0 (Nat.zero_le _) o (by unfold FU;omega)
def a5g{x:Nat}(h:x<2^62):i64 ((x:Int)+1)=((x+1:Nat):Int):=by rw[e9 (by omega) (by omega)];simp
def e7{a:Type}{l:O a}{i:Nat}{y:a}(h:l[i]?=some y):c7 l (i:Int)=some y:=by rw[b4c];omega
def a9h{a:Type}{l:O a}{i:Nat}{y:a}(h:l[i]?=some y):l.take (i+1)=l.take i++[y]:=by
 have b:i<l.length:=by grind
 rw[List.take_succ_eq_append_getElem b];simp_all
def d3s{b:Type}(a:O b)(t:b)(h:a.length<2^62):c7 (a++[t]) (i64 (((a++[t]).length:Int)-1))=some t:=by
 have:i64 (((a++[t]).length:Int)-1)=((a.length:Nat):Int):=by rw[qL];simp only[qR,qS];rw[e9 (by omega) (by omega)];omega
 rw[this,b4c];simp
def d3y{b:Type}(a:O b)(t u:b)(h:a.length<2^62):a8h (a++[t]) (i64 (((a++[t]).length:Int)-1)) u=a++[u]:=by
 have:i64 (((a++[t]).length:Int)-1)=((a.length:Nat):Int):=by rw[qL];simp only[qR,qS];rw[e9 (by omega) (by omega)];omega
 unfold a8h;simp_all
def h1f{b:Type}(l:O b):l=[]\/∃a t,l=a++[t]:=by rcases eq_nil_or_concat l with h|⟨a,t,h⟩;all_goals simp_all
def d36{a:Type}{l:O a}{i:Nat}{y:a}(h:l[i]?=some y):l.drop i=y::l.drop (i+1):=by
 have b:i<l.length:=by grind
 rw[qG b]at h;rw[List.drop_eq_getElem_cons b,qH h]
def e4d{a β:Type}{g:β->a->β}{l:O a}{i:Nat}{y:a}{b:β}(h:l[i]?=some y):(l.take (i+1)).foldl g b=g ((l.take i).foldl g b) y:=by rw[a9h h,foldl_append];rfl
end Go.PL
namespace Go.PL
open Go Go.SX
def Tot{b:Type}(o:A3 b)(Q:b->Prop):Prop:=∃a,o=some a/\Q a
section
variable {α β:Type} {o:A3 α} {Q R:α -> Prop} {S:β -> Prop} {f:α -> A3 β} {a:α}
def tC(h:Q a):Tot (some a) Q:=⟨a,rfl,h⟩
def tA(h:Tot o Q)(b:∀a,Q a->Tot (f a) S):Tot (Option.bind o f) S:=by obtain⟨a,rfl,c⟩:=h;simp_all
def tD{c:Prop}[Decidable c]{x y:A3 α}(b:c->Tot x Q)(d:¬c->Tot y Q):Tot (if c then x else y) Q:=by grind
def Tot.mono(h:Tot o Q)(b:∀a,Q a->R a):Tot o R:=by obtain⟨a,e,h⟩:=h;exact⟨a,e,b a h⟩
def tJ(h:Tot (f a) S):Tot (joinC f a) S:=h
end
def tO{σ ρ:Type}{f:(σ->A3 ρ)->σ->A3 ρ}(I:σ->Prop)(μ:σ->Nat){Q:ρ->Prop}{s:σ}(d:I s)(i:μ s<2^70)(b:∀(r:σ->A3 ρ)(s:σ),I s->(∀a,I a->μ a<μ s->Tot (r a) Q)->Tot (f r s) Q):Tot (d9 FU f s) Q:=by
 have c:∀(k:Nat)(s:σ),I s->μ s<k->Tot (d9 k f s) Q:=by intro k;induction k with|zero=>omega|succ k g=>intro s h l;exact b (d9 k f) s h λa e j=>g a e (by omega)
 exact c FU s d (by unfold FU;omega)
def a6l{s:A4}{i:Int}(c:0<=i)(d:i<(s.size:Int)):Tot (b3c s i) λb=>0<=b/\b<=255:=by
 unfold b3c;rw[if_pos c];have a:i.toNat<s.size:=by omega
 rw[getElem?_pos s i.toNat a];refine⟨_,rfl,?_⟩;have:=(s[i.toNat]'a).toNat_lt;grind
def a5a{s:A4}{a b:Int}(c:0<=a)(e:a<=b)(d:b<=(s.size:Int)):Tot (c3u s a b) λr=>(r.size:Int)=b-a:=by unfold c3u;rw[if_pos ⟨c,e,d⟩];refine⟨_,rfl,?_⟩;show((s.extract a.toNat b.toNat).size:Int)=b-a;rw[ByteArray.size_extract];omega
def d6{a b:A4}(h:a.size+b.size<=9223372036854775807):Tot (a7f a b) λr=>r.size=a.size+b.size:=by unfold a7f;rw[if_pos h];exact⟨_,rfl,ByteArray.size_append⟩
def c6{b:Type}{l:O b}{i:Int}(c:0<=i)(d:i<(l.length:Int)):Tot (c7 l i) λx=>x∈l:=by
 unfold c7;rw[if_pos c];have a:i.toNat<l.length:=by omega
 rw[qG a];exact⟨_,rfl,qV a⟩
def b24{a:Type}{k:Nat}{l x:O a}(h:(l.length+x.length)*k<=140737488355328):Tot (a4n k l x) λr=>r=l++x:=⟨_,p6 h,rfl⟩
def a3p{a b:Int}(c:0<=a)(g:0<b):Tot (b8t a b) λr=>r=a%b/\0<=r/\r<b/\r<=a:=by
 rw[d04 (by omega),c9f c];have d:=Int.emod_nonneg a (show b≠0 by omega);have e:=Int.emod_lt_of_pos a g;have f:a%b<=a:=by have:=Int.emod_add_mul_ediv a b;have h:0<=b*(a/b):=Int.mul_nonneg (by omega) (Int.ediv_nonneg c (by omega));omega
 exact⟨_,rfl,rfl,d,e,f⟩
def a7t{a b:Int}(c:0<=a)(g:a<=9223372036854775807)(f:0<b):Tot (c2t a b) λr=>r=a/b/\0<=r/\r<=a:=by rw[e9a (by omega),c7w c];have d:=Int.ediv_nonneg c (show 0<=b by omega);have e:a/b<=a:=Int.ediv_le_self b c;rw[e9 (by omega) (by omega)];exact⟨_,rfl,rfl,d,e⟩
def a42{x:Int}(a:0<=x)(b:x<=4611686018427387904):i64 (x+1)=x+1:=e9 (by omega) (by omega)
def a1i{a n:Int}(hn:0<n)(b:n<=9223372036854775807):Tot (b7 a n) λr=>0<=r/\r<n:=by
 unfold b7;rw[d04 (by omega),qA];have d:=Int.tmod_lt_of_pos a hn;have c:-n<a.tmod n:=Int.lt_tmod_of_pos a hn;refine tD (λh=>?_) λh=>?_;.simp at h;rw[e9 (by omega) (by omega)];exact tC (by omega)
 .simp at h;exact tC (by omega)
def a0t(l:O Int)(i:Int)(b:l.length<=9223372036854775807):Tot (c5 l i) λ_=>True:=by
 refine tD (λh=>tC trivial) λh=>?_;have c:0<l.length:=by grind
 refine tA (a1i (by omega) (by omega)) λv a=>?_;exact tA (c6 (by omega) (by omega)) λx _=>tC trivial
def b01{n:Int}(m:0<=n)(p:n<=9999999):Tot (i8 n) λr=>1<=r.size/\r.size<=8:=by
 have q:a6h.size=10:=by decide
 refine tO (I:=λv:Int×A4=>0<=v.1/\((v.1<=9/\v.2.size<=6)\/(v.1<=99/\v.2.size<=5)\/(v.1<=999/\v.2.size<=4)\/(v.1<=9999/\v.2.size<=3)\/(v.1<=99999/\v.2.size<=2)\/(v.1<=999999/\v.2.size<=1)\/(v.1<=9999999/\v.2.size<=0))) (μ:=λv=>v.1.toNat) (s:=(n,a3j)) ⟨m,.inr (.inr (.inr (.inr (.inr (.inr ⟨p,(by decide:a3j.size<=0)⟩)))))⟩ (by omega) ?_;intro r v o j;obtain⟨f,t⟩:=o;refine tD (λh=>?_) λh=>?_
 .simp at h;refine tA (a3p f (by omega)) λa w=>?_;refine tA (a3p f (by omega)) λb u=>?_;have g:a=b:=by omega
  rw[a42 (by omega) (by omega)];refine tA (a5a (by omega) (by omega) (by omega)) λc k=>?_;refine tA (d6 (by omega)) λd l=>?_;refine tA (a7t f (by omega) (by omega)) λe i=>?_;refine j (e,d) ⟨i.2.1,?_⟩ (by omega);show(e<=9/\d.size<=6)\/(e<=99/\d.size<=5)\/(e<=999/\d.size<=4)\/(e<=9999/\d.size<=3)\/(e<=99999/\d.size<=2)\/(e<=999999/\d.size<=1)\/(e<=9999999/\d.size<=0);omega
 .simp at h;rw[a42 (by omega) (by omega)];refine tA (a5a (by omega) (by omega) (by omega)) λc k=>?_;exact tA (d6 (by omega)) λd l=>tC (by omega)
def e0e{n:Int}(f:0<=n)(m:n<=999999):Tot (a01 n) λr=>r.size<=25:=by
 have u:b1i.size=1:=by decide
 refine tA (a7t f (by omega) (by omega)) λa y=>?_;refine tA (b01 (by omega) (by omega)) λb h=>?_;refine tA (d6 (by omega)) λc v=>?_;refine tA (a7t f (by omega) (by omega)) λd w=>?_;refine tA (a3p (by omega) (by omega)) λe t=>?_;refine tA (b01 (by omega) (by omega)) λg x=>?_;refine tA (d6 (by omega)) λi o=>?_;refine tA (a3p f (by omega)) λj s=>?_;refine tA (b01 (by omega) (by omega)) λk p=>?_;exact tA (d6 (by omega)) λl q=>tC (by omega)
def c2e{x:Int}(a:0<=x)(b:x<=9999999):Tot (i8 (i64 x)) λr=>1<=r.size/\r.size<=8:=by rw[e9 (by omega) (by omega)];exact b01 a b
def c1j{x:Int}(a:0<=x)(b:x<=999999):Tot (a01 (i64 x)) λr=>r.size<=25:=by rw[e9 (by omega) (by omega)];exact e0e a b
def b7s{a b:Int}(c:b≠0):Tot (c2t a b) λ_=>True:=⟨_,e9a c,trivial⟩
def b4f{a b:Int}(c:b≠0):Tot (b8t a b) λ_=>True:=⟨_,d04 c,trivial⟩
def h2f(b:Int):Bool:=decide (b>=97)&&decide (b<=122)
def h2u(b:Int):Bool:=decide (b>=48)&&decide (b<=57)
def d0j(b:Int):a3q b=some (h2f b):=by unfold a3q h2f;grind
def c7p(b:Int):a30 b=some (h2u b):=by unfold a30 h2u;grind
def c7c(a:Int):∃v,a43 a=some v/\0<=v/\v<=18446744073709551615/\(0<=a->a<=18446744073709551615->v=a):=by
 unfold a43;split;.rename_i h;simp at h;exact⟨_,rfl,(b51 _).1,(b51 _).2,λb=>by omega⟩
 .exact⟨_,rfl,(b51 _).1,(b51 _).2,λb c=>b83 b c⟩
def e2f{a b:Int}(l:0<=a)(q:0<=b)(h:0<a+b)(f:a<=18446744073709551615)(i:b<=18446744073709551615):Tot (a9s a b) λg=>0<g/\g<=18446744073709551615:=by
 refine tO (I:=λv:Int×Int=>0<=v.1/\0<=v.2/\0<v.1+v.2/\v.1<=18446744073709551615/\v.2<=18446744073709551615) (μ:=λv=>v.2.toNat) ⟨l,q,h,f,i⟩ (by omega) ?_;intro r v p o;obtain⟨m,n,t,j,s⟩:=p;refine tD (λd=>?_) λd=>tC ⟨by simp at d;omega,j⟩;have k:0<v.2:=by
  have:v.2≠0:=by simpa using d
  omega
 refine tA (a3p m k) λc e=>o (v.2,c) ⟨n,e.2.1,by omega,s,by omega⟩ (by omega)
def EB:Nat->Expr->Prop|0,_=>False|n+1,e=>e.Args.length<=3/\e.Name.size<=8000/\∀a∈e.Args,EB n a
def EB.leaf{n:Nat}{o:Int}{f:fQ}{d:Int}{s:A4}(b:s.size<=8000):EB (n+1) ⟨o,f,d,s,[]⟩:=⟨by simp,b,λa c=>by grind⟩
def EB.two{n:Nat}{o:Int}{f:fQ}{d:Int}{a b:Expr}(h:EB n a)(c:EB n b):EB (n+1) ⟨o,f,d,a3j,[a,b]⟩:=⟨by simp,(by decide:a3j.size<=8000),λx e=>by grind⟩
def EB.three{n:Nat}{o:Int}{f:fQ}{d:Int}{a b c:Expr}(h:EB n a)(i:EB n b)(e:EB n c):EB (n+1) ⟨o,f,d,a3j,[a,b,c]⟩:=⟨by simp,(by decide:a3j.size<=8000),λx g=>by grind⟩
def LG(k:Int)(c:O Credit)(i:O Index)(l:O Let)(g:O Grant)(d:O Reduce):Prop:=(c.length:Int)<=k/\(i.length:Int)<=k/\(l.length:Int)<=k/\(g.length:Int)<=k/\(d.length:Int)<=k/\(∀x∈l,x.Name.size<=8000/\EB 8001 x.Body)/\(∀x∈g,EB 8001 x.If/\EB 8001 x.Pay)/\∀x∈d,EB 8001 x.By
def b4a{b:Type}{l:O b}{a x:b}(h:x∈l++[a]):x∈l\/x=a:=by simp_all
def VG(v:Version):Prop:=LG 8000 v.Credits v.Series v.Lets v.Grants v.Reduces
def b7i(f:fQ):Tot (a1h f) λb=>b=true->1<=f.Den/\f.Den<=1000000000/\-1000000000000000<=f.Num/\f.Num<=1000000000000000:=by unfold a1h;simp only[o4,qA];refine tA (Q:=λb=>b=true->1<=f.Den/\f.Den<=1000000000/\-1000000000000000<=f.Num/\f.Num<=1000000000000000) (tD (λh=>?_) λ_=>tC λh=>by grind) λb e=>tC e;simp at h;obtain⟨x,c,a,d,_⟩:=c7c f.Num;rw[c,qA,b83 (by omega) (by omega)];exact tA (e2f a (by omega) (by omega) d (by omega)) λ_ _=>tC λ_=>⟨by omega,by omega,by omega,by omega⟩
def e17{n:Int}(i:0<=n)(u:n<=1000000000000000):Tot (a5w n 1) λr=>(r.size:Int)<=n+1:=by
 have q:a6h.size=10:=by decide
 refine tO (I:=λv:Int×A4=>0<=v.1/\v.1<=n/\v.1+(v.2.size:Int)<=n+1) (μ:=λv=>2*v.1.toNat+(1-v.2.size)) (s:=(n,a3j)) ⟨i,Int.le_refl _,by rw[show a3j.size=0from rfl];omega⟩ (by omega) ?_;intro r v l k;obtain⟨f,p,m⟩:=l;unfold b4s;rw[y3,qA];refine tD (λh=>?_) λ_=>tC (by omega);simp at h;refine tA (a3p f (by omega)) λa o=>tA (a3p f (by omega)) λb w=>?_;have g:a=b:=by omega
 rw[a42 (by omega) (by omega)];refine tA (a5a (by omega) (by omega) (by omega)) λc t=>tA (d6 (by omega)) λd x=>tA (a7t f (by omega) (by omega)) λe j=>?_;refine k (e,d) ⟨j.2.1,by omega,by show e+(d.size:Int)<=n+1;omega⟩ (by show 2*e.toNat+(1-d.size)<2*v.1.toNat+(1-v.2.size);omega)
def c3m{n:Int}(a:0<=n)(h:n<=999999999):Tot (a2n ⟨n,1⟩) λr=>r.size<=1000000000:=by refine tA (b7i _) λb _=>tD (λ_=>tC (by decide)) λ_=>?_;obtain⟨x,e,g,i,c⟩:=c7c n;have:=c a (by omega);subst this;rw[e,qA,e9 (by omega) (by omega)];refine tA (e17 a (by omega)) λd f=>?_;rw[if_neg (by grind)];refine tJ ?_;unfold a3x;exact tC (by grind)
def b0k(l:O Int)(k:Int)(s:A4)(p:l.length<=9223372036854775807)(q:s.size<=2400):Tot (a5b (l,k,s)) λr=>r.size<=2500:=by
 unfold a5b;try dsimp only
 have b:d3i.size=2:=by decide
 have a:c8b.size=51:=by decide
 refine tA (a0t _ _ p) λi c=>?_;refine tA (a1i (by omega) (by omega)) λn e=>?_;refine tD (λo=>?_) λo=>?_;.refine tA (d6 (by omega)) λh f=>?_;refine tA (d6 (by omega)) λm d=>?_;exact tC (by omega)
 .refine tA (d6 (by omega)) λj g=>?_;exact tC (by omega)
def b0m(l:O Int)(k:Int)(s:A4)(h:l.length<=9223372036854775807)(hs:s.size<=1900):Tot (a5c (l,k,s)) λr=>r.size<=2500:=by
 unfold a5c;try dsimp only
 have g:b7x.size=2:=by decide
 have f:d1p.size=6:=by decide
 have a:b7g.size=14:=by decide
 have c:c9u.size=14:=by decide
 have d:c7y.size=27:=by decide
 have e:c86.size=27:=by decide
 have b:c9l.size=29:=by decide
 refine tA (a0t _ _ h) λv79 q=>?_;refine tA (a1i (by omega) (by omega)) λR x=>?_;refine tA (b01 (by omega) (by omega)) λv81 F=>?_;refine tA (d6 (by omega)) λv82 M=>?_;refine tA (d6 (by omega)) λv83 N=>?_;refine tA (a0t _ _ h) λZ y=>?_;refine tA (a1i (by omega) (by omega)) λU H=>?_;refine tA (c2e (by omega) (by omega)) λv86 u=>?_;refine tA (d6 (by omega)) λW P=>?_;refine tA (d6 (by omega)) λv88 E=>?_;refine tA (d6 (by omega)) λQ G=>?_;refine tA (a0t _ _ h) λv90 w=>?_;refine tA (a1i (by omega) (by omega)) λV C=>?_;refine tA (b01 (by omega) (by omega)) λY A=>?_;refine tA (d6 (by omega)) λT t=>?_;refine tA (d6 (by omega)) λv94 I=>?_;refine tA (d6 (by omega)) λv95 o=>?_;refine tA (a0t _ _ h) λv96 D=>?_;refine tA (a1i (by omega) (by omega)) λv97 p=>?_;refine tD (λhc=>?_) λhc=>?_;.refine tA (a0t _ _ h) λS L=>?_;refine tA (a1i (by omega) (by omega)) λX B=>?_;refine tA (c1j (by omega) (by omega)) λz m=>?_;refine tA (d6 (by omega)) λJ i=>?_;refine tA (d6 (by omega)) λv n=>?_;refine tA (d6 (by omega)) λK j=>?_;exact tJ (b0k _ _ _ h (by omega))
 .exact tJ (b0k _ _ _ h (by omega))
def b0i(l:O Int)(k:Int)(t s:A4)(b:l.length<=9223372036854775807)(ht:t.size<=8)(hs:s.size<=900):Tot (a5j (l,k,t,s)) λr=>r.size<=2500:=by
 unfold a5j;try dsimp only
 have p:b7x.size=2:=by decide
 have a:c6o.size=4:=by decide
 have m:c83.size=22:=by decide
 have c:d0e.size=9:=by decide
 have f:c80.size=13:=by decide
 have n:c8p.size=16:=by decide
 have g:c8d.size=31:=by decide
 have o:c9k.size=25:=by decide
 have h:c9z.size=13:=by decide
 have d:c8t.size=20:=by decide
 have e:c9d.size=66:=by decide
 have j:d02.size=23:=by decide
 have i:c8f.size=26:=by decide
 refine tA (a0t _ _ b) λv29 hv29=>?_;refine tA (a1i (by omega) (by omega)) λv30 hv30=>?_;refine tA (c1j (by omega) (by omega)) λv31 X=>?_;refine tA (d6 (by omega)) λv32 Q=>?_;refine tA (d6 (by omega)) λv33 hv33=>?_;refine tA (a0t _ _ b) λv34 hv34=>?_;refine tA (a1i (by omega) (by omega)) λv35 K=>?_;refine tA (c1j (by omega) (by omega)) λv36 B=>?_;refine tA (d6 (by omega)) λv37 Y=>?_;refine tA (d6 (by omega)) λv38 Z=>?_;refine tA (d6 (by omega)) λv39 U=>?_;refine tA (d6 (by omega)) λv40 F=>?_;refine tA (d6 (by omega)) λv41 hv41=>?_;refine tA (a0t _ _ b) λv42 D=>?_;refine tA (a1i (by omega) (by omega)) λv43 hv43=>?_;refine tA (c1j (by omega) (by omega)) λv44 J=>?_;refine tA (d6 (by omega)) λv45 v=>?_;refine tA (d6 (by omega)) λv46 hv46=>?_;refine tA (d6 (by omega)) λv47 hv47=>?_;refine tA (a0t _ _ b) λv48 hv48=>?_;refine tA (a1i (by omega) (by omega)) λv49 z=>?_;refine tA (c2e (by omega) (by omega)) λv50 hv50=>?_;refine tA (d6 (by omega)) λv51 L=>?_;refine tA (d6 (by omega)) λv52 H=>?_;refine tA (a0t _ _ b) λv53 w=>?_;refine tA (a1i (by omega) (by omega)) λv54 A=>?_;refine tA (b01 (by omega) (by omega)) λv55 hv55=>?_;refine tA (d6 (by omega)) λv56 E=>?_;refine tA (d6 (by omega)) λv57 y=>?_;refine tA (a0t _ _ b) λv58 u=>?_;refine tA (a1i (by omega) (by omega)) λv59 T=>?_;refine tA (b01 (by omega) (by omega)) λv60 W=>?_;refine tA (d6 (by omega)) λv61 I=>?_;refine tA (d6 (by omega)) λv62 hv62=>?_;refine tA (d6 (by omega)) λv63 hv63=>?_;refine tA (a0t _ _ b) λv64 hv64=>?_;refine tA (a1i (by omega) (by omega)) λv65 P=>?_;refine tA (b01 (by omega) (by omega)) λv66 hv66=>?_;refine tA (d6 (by omega)) λv67 M=>?_;refine tA (d6 (by omega)) λv68 N=>?_;refine tA (a0t _ _ b) λv69 G=>?_;refine tA (a1i (by omega) (by omega)) λv70 x=>?_;refine tA (c1j (by omega) (by omega)) λv71 V=>?_;refine tA (d6 (by omega)) λv72 hv72=>?_;refine tA (d6 (by omega)) λv73 hv73=>?_;refine tA (d6 (by omega)) λv74 q=>?_;refine tA (a0t _ _ b) λv75 C=>?_;refine tA (a1i (by omega) (by omega)) λv76 R=>?_;refine tD (λhc=>?_) λhc=>?_;.refine tA (d6 (by omega)) λv77 S=>?_;exact tJ (b0m _ _ _ b (by omega))
 .exact tJ (b0m _ _ _ b (by omega))
def b0j(l:O Int)(k:Int)(t s:A4)(b:l.length<=9223372036854775807)(c:t.size<=8)(m:s.size<=800):Tot (a5k (l,k,t,s)) λr=>r.size<=2500:=by
 unfold a5k;try dsimp only
 have a:c9v.size=18:=by decide
 refine tA (a0t _ _ b) λi f=>?_;refine tA (a1i (by omega) (by omega)) λh d=>?_;refine tD (λj=>?_) λj=>?_;.refine tA (d6 (by omega)) λg e=>?_;exact tJ (b0i _ _ _ _ b c (by omega))
 .exact tJ (b0i _ _ _ _ b c (by omega))
def a2r(l:O Int)(k:Int)(t s:A4)(d:l.length<=9223372036854775807)(e:t.size<=8)(N:s.size<=400):Tot (a1a (l,k,t,s)) λr=>r.size<=2500:=by
 unfold a1a;try dsimp only
 have c:b7x.size=2:=by decide
 have b:c8s.size=19:=by decide
 have a:d01.size=42:=by decide
 refine tA (a0t _ _ d) λL j=>?_;refine tA (a1i (by omega) (by omega)) λJ p=>?_;refine tA (c2e (by omega) (by omega)) λB q=>?_;refine tA (d6 (by omega)) λC x=>?_;refine tA (d6 (by omega)) λz f=>?_;refine tA (d6 (by omega)) λA v=>?_;refine tA (a0t _ _ d) λE m=>?_;refine tA (a1i (by omega) (by omega)) λI g=>?_;refine tD (λG=>?_) λG=>?_;.refine tA (a0t _ _ d) λH i=>?_;refine tA (a1i (by omega) (by omega)) λy w=>?_;refine tA (c2e (by omega) (by omega)) λK u=>?_;refine tA (d6 (by omega)) λF h=>?_;refine tA (d6 (by omega)) λD n=>?_;refine tA (d6 (by omega)) λM o=>?_;exact tJ (b0j _ _ _ _ d e (by omega))
 .exact tJ (b0j _ _ _ _ d e (by omega))
def a8b(a:A4)(l:O Int)(k:Int)(h:l.length<=9223372036854775807)(G:a.size<=20):Tot (a38 a l k) λr=>r.size<=2500:=by
 have b:c1g.size=9:=by decide
 have e:c33.size=8:=by decide
 have c:c19.size=9:=by decide
 have f:c6e.size=6:=by decide
 have d:c32.size=8:=by decide
 have g:c6d.size=6:=by decide
 refine tA (a0t _ _ h) λD v=>?_;refine tA (a1i (by omega) (by omega)) λA w=>?_;refine tA (c2e (by omega) (by omega)) λC s=>?_;refine tA (d6 (by omega)) λH z=>?_;refine tA (d6 (by omega)) λE x=>?_;refine tA (a0t _ _ h) λB u=>?_;refine tA (a1i (by omega) (by omega)) λF y=>?_;refine tD (λi=>?_) λi=>?_;.refine tA (d6 (by omega)) λI t=>?_;exact tJ (a2r _ _ _ _ h (by omega) (by omega))
 .refine tD (λi=>?_) λi=>?_;.refine tA (d6 (by omega)) λp m=>?_;exact tJ (a2r _ _ _ _ h (by omega) (by omega))
  .refine tD (λi=>?_) λi=>?_;.refine tA (d6 (by omega)) λq n=>?_;exact tJ (a2r _ _ _ _ h (by omega) (by omega))
   .refine tA (d6 (by omega)) λo j=>?_;exact tJ (a2r _ _ _ _ h (by omega) (by omega))
def b2j(k:Int)(l:O Int)(s:A4)(h:l.length<=9223372036854775807)(t:s.size<=6000):Tot (a7x (k,l,s)) λr=>True:=by
 unfold a7x;try dsimp only
 have a:d0a.size=1:=by decide
 refine tA (a0t _ _ h) λi f=>?_;refine tA (a1i (by omega) (by omega)) λn c=>?_;refine tD (λp=>?_) λp=>?_;.refine tA (a8b _ _ _ h (by decide)) λm b=>?_;refine tA (d6 (by omega)) λj g=>?_;refine tA (d6 (by omega)) λq e=>?_;exact tC (by omega)
 .refine tA (d6 (by omega)) λo d=>?_;exact tC (by omega)
def c2w{k:Int}(l:O Int)(d:l.length<=9223372036854775807)(g:0<=k)(i:k<3):Tot (b10 k l) λr=>True:=by
 have c:d8i.size=3:=by decide
 have a:c2x.size=10:=by decide
 have b:c70.size=8:=by decide
 have A:∀x∈[c2c,c24,b8j],x.size<=10:=by decide
 refine tA (c6 (l:=[c2c,c24,b8j]) g i) λK t=>?_;refine tA (c6 (l:=[c2c,c24,b8j]) g i) λz e=>?_;have e:=A z e;refine tA (d6 (by omega)) λJ n=>?_;refine tA (d6 (by omega)) λE y=>?_;refine tA (c2e (by omega) (by omega)) λI s=>?_;refine tA (d6 (by omega)) λG o=>?_;refine tA (d6 (by omega)) λF p=>?_;refine tA (a8b _ _ _ d (by decide)) λL D=>?_;refine tA (d6 (by omega)) λH q=>?_;refine tA (a0t _ _ d) λB j=>?_;refine tA (a1i (by omega) (by omega)) λC f=>?_;refine tD (λw=>?_) λw=>?_;.refine tA (a8b _ _ _ d (by decide)) λu m=>?_;refine tA (d6 (by omega)) λv h=>?_;exact tJ (b2j _ _ _ d (by omega))
 .exact tJ (b2j _ _ _ d (by omega))
def e1k(a:Int):Tot (a97 a) λ_=>True:=by have h:∀k:Int,0<k->k<=9000->Tot (Option.bind (c2t a 4) λv=>Option.bind (b7 v k) λw=>some (i64 (1+w))) λ_=>True:=λk b c=>tA (b7s (by decide)) λ_ _=>tA (a1i b (by omega)) λ_ _=>tC trivial;refine tA (a1i (by omega) (by omega)) λm _=>tD (λ_=>h _ (by omega) (by omega)) λ_=>tD (λ_=>h _ (by omega) (by omega)) λ_=>tD (λ_=>h _ (by omega) (by omega)) λ_=>h _ (by omega) (by omega)
def e4r(k:Int):Tot (u4 k) λs=>s.size<=10:=by
 unfold u4;rw[y3,qA];refine tD (λ_=>tC (by decide)) λh=>?_;simp at h;have a:∀x∈[a3j,b1y,a6w,a6w,c0p,a9l,b82,a9l,a9l,a9l,c1r,c0e,c0e,c0e,c6f],x.size<=10:=by decide
 exact tA (c6 (by omega) (by simp;omega)) λ_ _=>tA (c6 (by omega) (by simp;omega)) λx b=>tC (a x b)
def f5k(a:tN):Tot (b1b a) λ_=>True:=by
 have j:∀q,Tot (a31 q) λ_=>True:=by
  intro q;refine tA (e4r _) λs g=>?_;refine tO (σ:=tN×aQ×aQ×Int) (I:=λv=>0<=v.2.2.2) (μ:=λv=>((s.size:Int)-v.2.2.2).toNat) (Int.le_refl _) (by grind) ?_;intro r v d f;refine tD (λc=>?_) λ_=>tC trivial;simp at c;have e:∀(x:tN)(y z:aQ),Tot (r (x,y,z,i64 (v.2.2.2+1))) λ_=>True:=λx y z=>by rw[a42 d (by omega)];exact f _ (by grind) (by show((s.size:Int)-(v.2.2.2+1)).toNat<((s.size:Int)-v.2.2.2).toNat;omega)
  refine tA (a6l d c) λb _=>?_;simp only[o4,qA];repeat' first|exact e _ _ _|(refine tD (λ_=>?_) λ_=>?_)|(refine tA (a1i (by omega) (by omega)) λ_ _=>?_)|(refine tA (b4f (by decide)) λ_ _=>?_)
 repeat' first|exact tJ (j _)|(refine tD (λ_=>?_) λ_=>?_)|(refine tA (a1i (by omega) (by omega)) λ_ _=>?_)|(refine tA (e1k _) λ_ _=>?_)
def b7k{b β:Type}(f:b->A3 β)(a:b):Go.SX.joinC f a=f a:=rfl
def o6{i n:Nat}(h:i<n):(decide ((i:Int)<(n:Int)))=true:=by simp_all
def g9(n:Nat):¬(decide ((n:Int)<(n:Int)))=true:=by simp
def c38{c:Type}{f:(O c×Int->A3 (O c))->O c×Int->A3 (O c)}{k:Nat}(l:O c)(p:c->Bool)(q:l.length<=2^30)(m:k<=1000)(d:∀(b:O c×Int->A3 (O c))(s:O c)(i:Nat)(y:c),l[i]?=some y->f b (s,(i:Int))=if p y=true then Option.bind (a4n k s [y]) (λa=>b (a,i64 ((i:Int)+1)))else b (s,i64 ((i:Int)+1)))(g:∀(b:O c×Int->A3 (O c))(s:O c),f b (s,(l.length:Int))=some s):d9 FU f ([],0)=some (l.filter p):=by
 refine a9k (f:=f) l (λs i=>(s,i)) (λs i=>s=(l.take i).filter p) (λo=>o=some (l.filter p)) (by omega) ?_ ?_ [] (by simp)
 .rintro b s i y n e rfl;have h:((l.take i).filter p).length<=i:=by have:=length_filter_le p (l.take i);rw[List.length_take]at this;omega
  rw[d _ _ _ _ e,a5g (by omega),a9h e,filter_append]
  by_cases j:p y=true;.rw[if_pos j,p6 (by calc(((l.take i).filter p).length+1)*k<=(2^30+1)*1000:=Nat.mul_le_mul (by omega) m
     _<=_:=by omega),qA];simp_all
  simp_all
 simp_all
def c5d{d:Type}{f:(Int->A3 Int)->Int->A3 Int}(l:O d)(p:d->Bool)(m:l.length<=2^30)(b:∀(a:Int->A3 Int)(i:Nat)(y:d),l[i]?=some y->f a (i:Int)=if p y=true then some (i:Int)else a (i64 ((i:Int)+1)))(j:∀a:Int->A3 Int,f a (l.length:Int)=some (-1)):∃n,d9 FU f 0=some n/\decide (n>=0)=l.any p:=by
 refine a9k (f:=f) l (λ(_:Unit)i=>i) (λ_ i=>∀y∈l.take i,p y=false) (λo=>∃n,o=some n/\decide (n>=0)=l.any p) (by omega) ?_ ?_ () (by simp)
 .rintro a s i y k e h;rw[b _ _ _ e,a5g (by omega)];by_cases g:p y=true;.left;rw[if_pos g];exact⟨_,rfl,by rw[List.any_eq_true.2 ⟨y,qE e,g⟩];simp⟩
  .right;rw[if_neg g];refine⟨(),rfl,λz c=>?_⟩;rw[a9h e]at c;rcases qK.1 c with c|c;.simp_all
   simp_all
 simp_all
def e7o{h σ ρ b:Type}{f:(σ->A3 ρ)->σ->A3 ρ}(l:O h)(e:b->Int->σ)(g:b->h->b)(out:b->A3 ρ)(t:l.length<=2^30)(d:b)(J:b->Nat->Prop)(n:J d 0)(c:∀(a:σ->A3 ρ)(s:b)(i:Nat)(y:h),l[i]?=some y->J s i->J (g s y) (i+1)/\f a (e s (i:Int))=a (e (g s y) (i64 ((i:Int)+1))))(j:∀(a:σ->A3 ρ)(s:b),J s l.length->f a (e s (l.length:Int))=out s):d9 FU f (e d 0)=out (l.foldl g d):=by
 refine a9k (f:=f) l e (λs i=>s=(l.take i).foldl g d/\J s i) (λo=>o=out (l.foldl g d)) (by omega) ?_ ?_ d ⟨by simp,n⟩;.rintro a s i y r k⟨rfl,q⟩;right;obtain⟨p,m⟩:=c a _ i y k q;rw[m,a5g (by omega)];exact⟨_,rfl,(e4d k).symm,p⟩
 simp_all
def c31(k:Int):Prop:=∃(s:A4)(f e a d b c:Bool),b2r k=some s/\u4 k=some s/\(s.toList==a3j.toList)=false/\(p9 g49 s=some f/\j6 k 83=some f)/\(p9 g4j s=some e/\j6 k 84=some e)/\(p9 g3v s=some a/\j6 k 72=some a)/\(p9 g50 s=some d/\j6 k 67=some d)/\(p9 g4u s=some b/\j6 k 65=some b)/\(p9 g5k s=some c/\j6 k 82=some c)
def c6u{k:Int}(s:A4)(c e d f b a:Bool)(q:b2r k=some s)(o:u4 k=some s)(j:(s.toList==a3j.toList)=false)(t:p9 g49 s=some c)(v:j6 k 83=some c)(h:p9 g4j s=some e)(i:j6 k 84=some e)(r:p9 g3v s=some d)(w:j6 k 72=some d)(g:p9 g50 s=some f)(p:j6 k 67=some f)(n:p9 g4u s=some b)(l:j6 k 65=some b)(m:p9 g5k s=some a)(u:j6 k 82=some a):c31 k:=⟨s,c,e,d,f,b,a,q,o,j,⟨t,v⟩,⟨h,i⟩,⟨r,w⟩,⟨g,p⟩,⟨n,l⟩,m,u⟩
def g89:c31 1:=c6u b1y true true true true true false (by kernel_rfl) (by kernel_rfl) (by kernel_rfl) (by kernel_rfl) (by kernel_rfl) (by kernel_rfl) (by kernel_rfl) (by kernel_rfl) (by kernel_rfl) (by kernel_rfl) (by kernel_rfl) (by kernel_rfl) (by kernel_rfl) (by kernel_rfl) (by kernel_rfl)
def h03:c31 2:=c6u a6w true false true true true false (by kernel_rfl) (by kernel_rfl) (by kernel_rfl) (by kernel_rfl) (by kernel_rfl) (by kernel_rfl) (by kernel_rfl) (by kernel_rfl) (by kernel_rfl) (by kernel_rfl) (by kernel_rfl) (by kernel_rfl) (by kernel_rfl) (by kernel_rfl) (by kernel_rfl)
def h0m:c31 4:=c6u c0p true true false false false false (by kernel_rfl) (by kernel_rfl) (by kernel_rfl) (by kernel_rfl) (by kernel_rfl) (by kernel_rfl) (by kernel_rfl) (by kernel_rfl) (by kernel_rfl) (by kernel_rfl) (by kernel_rfl) (by kernel_rfl) (by kernel_rfl) (by kernel_rfl) (by kernel_rfl)
def g8w:c31 5:=c6u a9l true false false false false false (by kernel_rfl) (by kernel_rfl) (by kernel_rfl) (by kernel_rfl) (by kernel_rfl) (by kernel_rfl) (by kernel_rfl) (by kernel_rfl) (by kernel_rfl) (by kernel_rfl) (by kernel_rfl) (by kernel_rfl) (by kernel_rfl) (by kernel_rfl) (by kernel_rfl)
def g99:c31 6:=c6u b82 true false false true true false (by kernel_rfl) (by kernel_rfl) (by kernel_rfl) (by kernel_rfl) (by kernel_rfl) (by kernel_rfl) (by kernel_rfl) (by kernel_rfl) (by kernel_rfl) (by kernel_rfl) (by kernel_rfl) (by kernel_rfl) (by kernel_rfl) (by kernel_rfl) (by kernel_rfl)
def g3g:c31 10:=c6u c1r true false false false false true (by kernel_rfl) (by kernel_rfl) (by kernel_rfl) (by kernel_rfl) (by kernel_rfl) (by kernel_rfl) (by kernel_rfl) (by kernel_rfl) (by kernel_rfl) (by kernel_rfl) (by kernel_rfl) (by kernel_rfl) (by kernel_rfl) (by kernel_rfl) (by kernel_rfl)
def g6k:c31 11:=c6u c0e false false false false false false (by kernel_rfl) (by kernel_rfl) (by kernel_rfl) (by kernel_rfl) (by kernel_rfl) (by kernel_rfl) (by kernel_rfl) (by kernel_rfl) (by kernel_rfl) (by kernel_rfl) (by kernel_rfl) (by kernel_rfl) (by kernel_rfl) (by kernel_rfl) (by kernel_rfl)
def g4p:c31 14:=c6u c6f false false false false false true (by kernel_rfl) (by kernel_rfl) (by kernel_rfl) (by kernel_rfl) (by kernel_rfl) (by kernel_rfl) (by kernel_rfl) (by kernel_rfl) (by kernel_rfl) (by kernel_rfl) (by kernel_rfl) (by kernel_rfl) (by kernel_rfl) (by kernel_rfl) (by kernel_rfl)
def f1g{k:Int}(a:1<=k)(b:k<=14):c31 k:=by
 have:k=1\/k=2\/k=3\/k=4\/k=5\/k=6\/k=7\/k=8\/k=9\/k=10\/k=11\/k=12\/k=13\/k=14:=by omega
 rcases this with rfl|rfl|rfl|rfl|rfl|rfl|rfl|rfl|rfl|rfl|rfl|rfl|rfl|rfl;all_goals first|exact g89|exact h03|exact uses_3|exact h0m|exact g8w|exact g99|exact uses_7|exact uses_8|exact uses_9|exact g3g|exact g6k|exact uses_12|exact uses_13|exact g4p
def d4q{k:Int}(h:k<1\/15<=k):b2r k=some a3j/\u4 k=some a3j:=by
 have e:∀j:Int,1<=j->j<=14->(k==j)=false:=by grind
 constructor;.unfold b2r c0m b4i b7q joinC;simp[e 1,e 2,e 3,e 4,e 5,e 6,e 7,e 8,e 9,e 10,e 11,e 12,e 13,e 14]
 .unfold u4;rw[y3,qA,if_pos (by simp_all)]
def a3w{k:Int}{s c:A4}{n x lo hi:Int}{b:Bool}(h:p9 c s=some b/\j6 k n=some b):(Option.bind (p9 c s) λz=>b0d z x lo hi)=some (if b=true then decide (lo<=x)&&decide (x<=hi)else x==0)/\a09 k n x lo hi=some (if b=true then decide (lo<=x)&&decide (x<=hi)else x==0):=by
 obtain⟨a,d⟩:=h;constructor;.unfold b0d a9w;grind
 .unfold a09;grind
def b73{b β c:Type}(a:A3 b)(f:b->A3 β)(g:β->A3 c):(Option.bind a λx=>Option.bind (f x) g)=Option.bind (Option.bind a f) g:=by grind
set_option maxHeartbeats 4000000 in
def b9h (d:aQ): ∃b,b3k d=some b /\ m8 d=some b /\ (b=true -> 0 <= d.Span.From /\ d.Span.From<d.Span.To /\ d.Span.To <= 73049):=by
 by_cases B:1 <= d.Kind /\ d.Kind <= 14
 ·obtain ⟨s,R,S,Y,Q,K,H,n,o,X,F,W,hH,Z,V,U⟩:=f1g B.1 B.2
  obtain ⟨y,r⟩:=a3w (x:=d.State) (lo:=0) (hi:=5) F
  obtain ⟨C,A⟩:=a3w (x:=d.Seat) (lo:=0) (hi:=5) W
  obtain ⟨E,z⟩:=a3w (x:=d.Share) (lo:=1) (hi:=100) hH
  obtain ⟨u,w⟩:=a3w (x:=d.Currency) (lo:=1) (hi:=999) Z
  obtain ⟨v,D⟩:=a3w (x:=d.Amount) (lo:=0) (hi:=1000000000) V
  obtain ⟨t,q⟩:=a3w (x:=d.Ref) (lo:=1) (hi:=99) U
  generalize (if R=true then decide (0 <= d.State)&&decide (d.State <= 5) else d.State==0)=a at y r
  generalize (if S=true then decide (0 <= d.Seat)&&decide (d.Seat <= 5) else d.Seat==0)=c at C A
  generalize (if Y=true then decide (1 <= d.Share)&&decide (d.Share <= 100) else d.Share==0)=i at E z
  generalize (if Q=true then decide (1 <= d.Currency)&&decide (d.Currency <= 999) else d.Currency==0)=e at u w
  generalize (if K=true then decide (0 <= d.Amount)&&decide (d.Amount <= 1000000000) else d.Amount==0)=f at v D
  generalize (if H=true then decide (1 <= d.Ref)&&decide (d.Ref <= 99) else d.Ref==0)=g at t q
  unfold b3k m8
  simp only [b73,y,C,E,u,v,t,r,A,z,w,D,q,n,o,qA,X,qM,if_false]
  unfold a9w b8g b9u b9v joinC
  simp only [qA,y3,o4]
  by_cases m:(((((((decide (d.Issuer<0)||decide (6 <= d.Issuer))||decide (d.Number<1))||decide (999<d.Number))||decide (d.Version<1))||decide (99<d.Version))||decide (d.Person<1))||decide (99<d.Person))=true
  ·refine ⟨false,?_,?_,by simp⟩
   ·rw [if_pos]
    simp at m ⊢; omega
   ·rw [if_pos]
    simp only [m];rfl
  ·rw [Bool.not_eq_true] at m
   simp only [m,Bool.false_or,qM,if_false]
   rw [if_neg (by simp at m ⊢; omega)]
   by_cases L:0 <= d.Span.From /\ d.Span.From<d.Span.To /\ d.Span.To <= 73049
   ·have j:((decide (0 <= d.Span.From)&&decide (d.Span.From<d.Span.To))&&decide (d.Span.To <= 73049))=true:=by simp;omega
    have l:((decide (d.Span.From<0)||decide (d.Span.To <= d.Span.From))||decide (73049<d.Span.To))=false:=by simp;omega
    have T:i64 (d.Span.From+1)=d.Span.From+1:=e9 (by omega) (by omega)
    have I:i64 (d.Span.To-d.Span.From)=d.Span.To-d.Span.From:=e9 (by omega) (by omega)
    have J:(d.Span.To==d.Span.From+1)= !(d.Span.To-d.Span.From != 1):=by
     rw [Bool.eq_iff_iff];simp;omega
    simp only [j,l,T,I,J,qU,Bool.or_false,qM,if_false]
    refine ⟨!(((((d.Kind==11)||(d.Kind==12))&&(d.Span.To-d.Span.From != 1))||((d.Kind==4)&&(d.Seat==d.State)))||(((d.Kind==10)||(d.Kind==14))&&(d.Ref==d.Person)))&&(((((a&&c)&&i)&&e)&&f)&&g),?_,?_,λ _=>L⟩
    ·have p:d.Kind=4 \/ d.Kind=11 \/ d.Kind=12 \/ d.Kind=10 \/ d.Kind=14 \/ ((d.Kind==4)=false /\ (d.Kind==11)=false /\ (d.Kind==12)=false /\ (d.Kind==10)=false /\ (d.Kind==14)=false):=by simp;omega
     rcases p with h | h | h | h | h | ⟨g1,M,N,P,G⟩
     ·simp only [h];cases a<;>cases c<;>cases i<;>cases e<;>cases f<;>cases g<;>simp
      show (!(d.State==d.Seat))=(!(d.Seat==d.State))
      rw [BEq.comm]
     ·simp only [h];cases a<;>cases c<;>cases i<;>cases e<;>cases f<;>cases g<;>simp
     ·simp only [h];cases a<;>cases c<;>cases i<;>cases e<;>cases f<;>cases g<;>simp
     ·simp only [h];cases a<;>cases c<;>cases i<;>cases e<;>cases f<;>cases g<;>simp
      rfl
     ·simp only [h];cases a<;>cases c<;>cases i<;>cases e<;>cases f<;>cases g<;>simp
      rfl
     ·simp only [g1,M,N,P,G];cases a<;>cases c<;>cases i<;>cases e<;>cases f<;>cases g<;>simp
    ·generalize (((((d.Kind==11)||(d.Kind==12))&&(d.Span.To-d.Span.From != 1))||((d.Kind==4)&&(d.Seat==d.State)))||(((d.Kind==10)||(d.Kind==14))&&(d.Ref==d.Person)))=sp
     cases sp<;>cases a<;>cases c<;>cases i<;>cases e<;>cases f<;>cases g<;>simp
   ·have j:((decide (0 <= d.Span.From)&&decide (d.Span.From<d.Span.To))&&decide (d.Span.To <= 73049))=false:=by simp;omega
    have l:((decide (d.Span.From<0)||decide (d.Span.To <= d.Span.From))||decide (73049<d.Span.To))=true:=by simp;omega
    refine ⟨false,?_,?_,by simp⟩
    ·rw [if_pos];simp only [j,Bool.not_false,Bool.or_true]
    ·rw [if_pos l];simp
 ·obtain ⟨n,o⟩:=d4q (k:=d.Kind) (by omega)
  refine ⟨false,?_,?_,by simp⟩
  ·unfold b3k
   simp [n]
  ·unfold m8
   simp only [y3,qA]
   simp [o]
inductive Tk where|w(s:ByteArray)|s(s:ByteArray)|n(v:fQ)(d:Int)|d(day:Int)
def i45(s:A4):Bool:=match s.toList with|c::_=>!(48<=c.toNat&&c.toNat<=57)&&!c.toNat==64|[]=>false
def TkR(t:Token):Tk->Prop|.w x=>t.Kind=1/\t.Text=x|.s x=>t.Kind=4/\t.Text=x|.n v d=>t.Kind=2/\a2x t.Text=some (v,d,true)/\i45 t.Text=false|.d a=>t.Kind=3/\b09 t.Text=some a/\i45 t.Text=false
def isT(t:Tk)(s:A4):Bool:=match t with|.w x=>x.toList==s.toList|.s x=>x.toList==s.toList|_=>false
def kdT:Tk->Int|.w _=>1|.s _=>4|.n _ _=>2|.d _=>3
structure RdrA(r:rQ)(ts:List Tk):Prop where
 bad:r.bad=false
 nn:0<=r.at_
 len:r.l.length<=8000all:y7 TkR (r.l.drop r.at_.toNat) ts
def adv(r:rQ):rQ:=⟨r.l,r.at_+1,r.end_,r.bad⟩
section
variable {r:rQ} {t:Tk} {ts:O Tk} {s:A4}
def RdrA.cons(h:RdrA r (t::ts)):∃x,c7 r.l r.at_=some x/\TkR x t/\r.at_<(r.l.length:Int)/\RdrA (adv r) ts/\i64 (r.at_+1)=r.at_+1:=by obtain⟨j,e,g,b⟩:=h;cases a:r.l.drop r.at_.toNat with|nil=>rw[a]at b;exact b.elim|cons x c=>
   rw[a]at b;have f:r.at_.toNat<r.l.length:=by have:=congrArg List.length a;simp at this;omega
   have i:r.l[r.at_.toNat]?=some x:=by have:=congrArg head? a;simpa[head?_drop]using this
   refine⟨x,j38 e i,b.1,by omega,⟨j,by show 0<=r.at_+1;omega,g,?_⟩,a42 e (by omega)⟩;show y7 TkR (r.l.drop (r.at_+1).toNat) ts;rw[show(r.at_+1).toNat=r.at_.toNat+1by omega,<-List.drop_drop,a];exact b.2
def TkR.eq{x:Token}(h:TkR x t)(c:i45 s=true):(x.Text.toList==s.toList)=isT t s:=by
 have e:i45 x.Text=false->(x.Text.toList==s.toList)=false:=λb=>by cases a:(x.Text.toList==s.toList)with|false=>rfl|true=>have a:=eq_of_beq a;unfold i45 at b c;rw[a,c]at b;cases b
 cases t with|w y=>rw[h.2];rfl|s y=>rw[h.2];rfl|n v d=>exact e h.2.2|d f=>exact e h.2.2
def TkR.kd{x:Token}(h:TkR x t):x.Kind=kdT t:=by cases t<;>exact h.1
def j2a(h:RdrA r (t::ts))(b:i45 s=true):u9 r s=some (isT t s):=by obtain⟨x,d,c,a,_,_⟩:=h.cons;unfold u9;rw[h.bad];simp only[Bool.not_false,if_true,qA,decide_eq_true a,d,c.eq b]
def i5c(h:RdrA r (t::ts))(k:Int):p8 r k=some (kdT t==k):=by obtain⟨x,b,c,a,_,_⟩:=h.cons;unfold p8;rw[h.bad];simp only[Bool.not_false,if_true,qA,decide_eq_true a,b,c.kd]
def i5a(h:RdrA r (t::ts))(b:i45 s=true):d7 r s=some (isT t s,if isT t s then adv r else r):=by obtain⟨x,d,e,c,_,a⟩:=h.cons;unfold d7;rw[j2a h b,qA];cases f:isT t s with|true=>rw[a];rfl|false=>rfl
def j0h(h:RdrA r (t::ts))(a:i45 s=true)(b:isT t s=true):b9 r s=some (adv r):=by unfold b9;rw[i5a h a,qA,b];rfl
def j0i{x:A4}(h:RdrA r (.w x::ts))(hn:a2e x=some true):a0w r=some (x,adv r):=by obtain⟨y,b,a,d,_,e⟩:=h.cons;have c:y.Text=x:=a.2;have g:=h.nn;have f:=h.len;unfold a0w;rw[i5c h,qA];simp only[kdT,b,qA,c,hn,e,show i64 (r.at_+1-1)=r.at_ from by rw[e9 (by omega) (by omega)];omega];rfl
def i6g{v a b:Int}(h:RdrA r (.n ⟨v,1⟩ 2::ts))(g:a<=v)(f:v<=b):s7 r a b=some (v,adv r):=by obtain⟨y,d,c,e,_,i⟩:=h.cons;unfold s7;rw[i5c h,qA];simp only[kdT,d,qA,c.2.1,i,decide_eq_true g,decide_eq_true f,ge_iff_le];rfl
end
inductive AE where|lit(v:fQ)(d:Int)|nm(s:ByteArray)|best(k:Int)|bin(op:Int)(a b:AE)|ite(a b c:AE)
def AE.e:AE->Expr|.lit v d=>⟨1,v,d,a3j,[]⟩|.nm s=>⟨2,⟨0,0⟩,0,s,[]⟩|.best k=>⟨3,⟨k,1⟩,0,a3j,[]⟩|.bin e a b=>⟨e,⟨0,0⟩,0,a3j,[a.e,b.e]⟩|.ite a b c=>⟨21,⟨0,0⟩,0,a3j,[a.e,b.e,c.e]⟩
def k0v:O (Int×Int×A4):=[(7,5,g5d),(8,5,e00),(9,6,g62),(10,6,e8f),(11,4,g4g),(12,4,d28),(13,4,e7j),(14,4,d1k),(15,4,g5n),(16,4,d30),(17,2,c9m),(18,1,d8p)]
def j92(a:Int)(t:Tk):O (Int×Int×A4)->Int|[]=>0|(c,l,s)::q=>bif(l==a)&&isT t s then c else j92 a t q
def j67(s:A4):Bool:=match a2e s with|some true=>true|_=>false
inductive Md where|E(lvl:Nat)|L(lvl:Nat)(e:AE)|F|C(op:Int)
def eat(s:A4):O Tk->A3 (O Tk)|t::r=>bif isT t s then some r else none|[]=>none
def pX:Nat->Md->O Tk->A3 (AE×O Tk)
 |0,_,_=>none|k+1,.E 0,t::r=>bif isT t d0k then(pX k (.E 0) r).bind λa=>(eat d3p a.2).bind λj=>(pX k (.E 0) j).bind λb=>(eat c53 b.2).bind λh=>(pX k (.E 0) h).bind λc=>some (.ite a.1 b.1 c.1,c.2)else pX k (.E 1) (t::r)|k+1,.E 3,t::r=>bif isT t c92 then none else pX k (.E 4) (t::r)|k+1,.E 7,t::r=>pX k .F (t::r)|k+1,.E f,t::r=>(pX k (.E (f+1)) (t::r)).bind λa=>pX k (.L f a.1) a.2|k+1,.L f e,t::r=>match j92 f t k0v with|0=>some (e,t::r)|i=>(pX k (.E (f+1)) r).bind λa=>bif Nat.beq f 4then some (.bin i e a.1,a.2)else pX k (.L f (.bin i e a.1)) a.2
 |k+1,.F,t::r=>match t with|.n v d=>some (.lit v d,r)|.w x=>bif isT t e00 then none else bif isT t e02 then none else bif isT t c51 then(eat e02 r).bind λj=>match j with|.n ⟨v,1⟩ 2::h=>(bif decide (1<=v)&&decide (v<=45)then(eat d38 h).bind λl=>some (.best v,l)else none)|_=>none else bif isT t c1a then none else bif isT t c8l then pX k (.C 19) (t::r)else bif isT t c98 then pX k (.C 20) (t::r)else bif j67 x then some (.nm x,r)else none|_=>none
 |k+1,.C i,t::r=>match a8e i with|some 2=>(eat e02 r).bind λj=>(pX k (.E 0) j).bind λa=>(eat g2w a.2).bind λh=>(pX k (.E 0) h).bind λb=>(eat d38 b.2).bind λl=>some (.bin i a.1 b.1,l)|_=>none
 |_,_,[]=>none
def j2s:∃m,FU=m+1+1:=⟨FU-2,by
 have:1000000<=FU:=by unfold FU;decide
 omega⟩
def i4b:100000<=FU:=by unfold FU;decide
def rmn(s:A4)(p:Nat):O UInt8:=s.data.toList.drop p
def i6n(s:A4):s.size=s.data.toList.length:=by rw[Array.length_toList];rfl
section
variable {s:A4} {p:Nat} {c:UInt8} {rest w:O UInt8}
def i8x(h:rmn s p=c::rest):p<s.size:=by have:=congrArg List.length h;unfold rmn at this;rw[i6n];simp at this⊢;omega
def j16:rmn s p=[]↔s.size<=p:=by unfold rmn;rw[drop_eq_nil_iff,i6n]
def i9k{a:O UInt8}(h:rmn s p=a++rest):rmn s (p+a.length)=rest:=by unfold rmn at*;rw[<-List.drop_drop,h,List.drop_left]
def i7m(h:rmn s p=c::rest):rmn s (p+1)=rest:=i9k (a:=[c]) h
def i6t{a:O UInt8}(h:rmn s p=a++rest)(b:p<=s.size):p+a.length<=s.size:=by have:=congrArg List.length h;unfold rmn at this;rw[i6n]at*;simp at this b⊢;omega
def i6v(h:rmn s p=c::rest):b3c s (p:Int)=some (c.toNat:Int):=by
 unfold b3c;rw[if_pos (by omega)];have a:=i8x h;have d:s[p]?=some c:=by
  rw[getElem?_pos s p a];have b:s.data.toList[p]?=some c:=by have:=congrArg head? h;unfold rmn at this;simpa[head?_drop]using this
  rw[qD]at b;obtain⟨_,e⟩:=b;rw[<-e];rfl
 rw[Int.toNat_natCast,d];rfl
def i6c{a:O UInt8}(h:rmn s p=a++rest)(b:p<=s.size):c3u s (p:Int) ((p:Int)+(a.length:Int))=some ⟨a.toArray⟩:=by unfold c3u;have:=i6t h b;rw[if_pos ⟨by omega,by omega,by omega⟩];congr 1;apply ByteArray.ext;apply Array.ext';rw[ByteArray.data_extract,Array.toList_extract,extract_eq_take_drop,Int.toNat_natCast,show((p:Int)+(a.length:Int)).toNat=p+a.length by omega];unfold rmn at h;rw[h,show p+a.length-p=a.length by omega,List.take_left]
end
def iv(c:UInt8):Int:=(c.toNat:Int)
def i9x(b:Bool)(c:UInt8):Bool:=h2f (iv c)||h2u (iv c)||(iv c==95)||(b&&(iv c==46))
def j8n{s:A4}(v:s.size<=8000)(p:Nat)(b:Bool)(rest:O UInt8)(q:∀c r,rest=c::r->i9x b c=false):∀(w:O UInt8)(n k:Nat),rmn s (p+n)=w++rest->p+n<=s.size->(∀c∈w,i9x b c=true)->w.length<k->d9 k (b7b (p:Int) s b) (n:Int)=some ((n+w.length:Nat):Int):=by
 have d:∀(n:Nat)(c:UInt8)(r:O UInt8)(a:Int->A3 Int),rmn s (p+n)=c::r->b7b (p:Int) s b a (n:Int)=if i9x b c=true then a ((n+1:Nat):Int)else some (n:Int):=by
  intro n c r a h;have g:=i8x h;have f:i64 ((p:Int)+(n:Int))=((p+n:Nat):Int):=by rw[e9 (by omega) (by omega)];omega
  unfold b7b;rw[f];have t:b3c s ((p+n:Nat):Int)=some (iv c):=i6v h;rw[if_pos (by simp;omega)];simp only[t,qA,d0j,c7p,y3,o4];rw[show i64 ((n:Int)+1)=((n+1:Nat):Int)by rw[a42 (by omega) (by omega)];omega];rfl
 intro w;induction w with
 |nil=>
   intro n k h j _ e;obtain⟨k,rfl⟩:∃m,k=m+1:=⟨k-1,by simp at e;omega⟩
   rw[d24];cases rest with|nil=>
     have u:=j16.1 h;unfold b7b;have f:i64 ((p:Int)+(n:Int))=((p+n:Nat):Int):=by rw[e9 (by omega) (by omega)];omega
     rw[f,if_neg (by simp;omega)];rfl|cons c r=>rw[d n c r _ h,if_neg (by rw[q c r rfl];decide)];rfl
 |cons c w o=>intro n k h j i e;have e:w.length+1<k:=e;obtain⟨k,rfl⟩:∃m,k=m+1:=⟨k-1,by omega⟩;have g:=i8x h;rw[d24,d n c (w++rest) _ h,if_pos (i c (by simp)),o (n+1) k (i7m h) (by omega) (λc l=>i c (qJ _ l)) (by omega)];congr 2;simp;omega
def j6p{s:A4}(f:s.size<=8000){p:Nat}{b:Bool}{w rest:O UInt8}(h:rmn s p=w++rest)(a:p<=s.size)(e:∀c r,rest=c::r->i9x b c=false)(d:∀c∈w,i9x b c=true):a9f s (p:Int) b=some (w.length:Int):=by have g:=i6t h a;have:=j8n f p b rest e w 0 FU h (by omega) d (by have:=i4b;omega);unfold a9f;simpa using this
def blk(b:Bool):O UInt8:=bif b then[32]else[]
def j1r(c:UInt8):Bool:=!(iv c==10)&&!(iv c==35)&&(iv c !=9)&&(iv c !=13)&&(iv c !=32)
def j3f{s:A4}(z:s.size<=8000){p:Nat}{b:Bool}{w:O UInt8}(h:rmn s p=blk b++w)(t:p<=s.size)(n:∀c r,w=c::r->j1r c=true):b16 s (p:Int)=some ((p+(blk b).length:Nat):Int):=by
 have a:∀(q k:Nat),rmn s q=w->q<=s.size->d9 (k+1) (b78 s) ((q:Int),false)=some (q:Int):=by intro q k h y;rw[d24];unfold b78;cases w with|nil=>have:=j16.1 h;rw[if_neg (by simp;omega)]|cons c r=>have g:=i8x h;have e:b3c s (q:Int)=some (iv c):=i6v h;have f:=n c r rfl;unfold j1r at f;simp only[qB,Bool.not_eq_true']at f;obtain⟨⟨⟨⟨j,o⟩,l⟩,u⟩,i⟩:=f;rw[if_pos (by simp;omega)];simp only[e,qA,j,o,l,u,i,qM,if_false,Bool.not_false,if_true]
 unfold b16;obtain⟨m,v⟩:=j2s;rw[v];cases b with|false=>exact a p (m+1) h t|true=>have h:rmn s p=32::w:=h;have g:=i8x h;have e:b3c s (p:Int)=some (32:Int):=i6v h;rw[d24];generalize d:d9 (m+1) (b78 s)=x;unfold b78;rw[if_pos (by simp;omega)];simp only[e,qA,show((32:Int)==10)=false from rfl,show((32:Int)==35)=false from rfl,show((32:Int)!=9)=true from rfl,show((32:Int)!=13)=true from rfl,show((32:Int)!=32)=false from rfl,qM,if_false,Bool.not_false,if_true];rw[a42 (by omega) (by omega),<-d,show(p:Int)+1=((p+1:Nat):Int)by omega];exact a (p+1) m (i7m h) (by omega)
def i6b(p:UInt8->Bool)(rest:O UInt8):Prop:=∀c r,rest=c::r->p c=false
def j2w(c:UInt8):Bool:=[60,62,61,43,45,42,47,40,41,123,125,44,59].any λn=>iv c==n
inductive LxOK:Tk->List UInt8->List UInt8->Prop|w{c:UInt8}{w rest:List UInt8}:h2f (iv c)=true->(∀x∈c::w,i9x false x=true)->(c::w).length<=12->i6b (i9x false) rest->LxOK (.w ⟨(c::w).toArray⟩) (c::w) rest|n{c:UInt8}{w rest:List UInt8}{v:fQ}{d:Int}{x y:ByteArray}:h2u (iv c)=true->h2f (iv c)=false->(∀x∈c::w,i9x true x=true)->i6b (i9x true) rest->a6z ⟨(c::w).toArray⟩=some (x,y,d,true)->a2x ⟨(c::w).toArray⟩=some (v,d,true)->LxOK (.n v d) (c::w) rest|d{w rest:List UInt8}{day:Int}:w.length=10->a47 ⟨w.toArray⟩=some (day,true)->LxOK (.d day) (64::w) rest|s1{c:UInt8}{rest:List UInt8}:j2w c=true->(((iv c==60)=false/\(iv c==62)=false)\/i6b (λc=>iv c==61||iv c==62) rest)->LxOK (.s ⟨#[c]⟩) [c] rest|s2{c c2:UInt8}{rest:List UInt8}:(c,c2)=(60,61)\/(c,c2)=(62,61)\/(c,c2)=(60,62)->LxOK (.s ⟨#[c,c2]⟩) [c,c2] rest
def j2n{c:UInt8}{w:O UInt8}:i45 ⟨(c::w).toArray⟩=(!(48<=c.toNat&&c.toNat<=57)&&!c.toNat==64):=by unfold i45;rw[ByteArray.toList_eq]
def j34{s:A4}(e:s.size<=8000){q:Nat}{w rest:O UInt8}(h:rmn s q=w++rest)(a:q<=s.size)(k:Int)(c:Token):a1o (s,(q:Int),c,k,(w.length:Int),true)=some (⟨k,⟨w.toArray⟩,(q:Int)⟩,((q+w.length:Nat):Int),0):=by have d:=i6t h a;unfold a1o;have b:i64 ((q:Int)+(w.length:Int))=(q:Int)+(w.length:Int):=e9 (by omega) (by omega);simp only[qU,qM,if_false,b,i6c h a,qA];rfl
def j44{s:A4}(C:s.size<=8000){q:Nat}{c:UInt8}{rest:O UInt8}(h:rmn s q=c::rest)(d:j2w c=true)(v:((iv c==60)=false/\(iv c==62)=false)\/i6b (λc=>iv c==61||iv c==62) rest):b1a s (q:Int)=some 1:=by
 have u:=i8x h;have z:b3c s (q:Int)=some (iv c):=i6v h;have m:joinC a7w (s,(q:Int))=some 1:=by unfold joinC a7w;simp only[z,qA];unfold j2w at d;simp only[any_cons,any_nil,Bool.or_false,Bool.or_eq_true]at d;rcases d with d|d|d|d|d|d|d|d|d|d|d|d|d<;>(rw[eq_of_beq d];rfl)
 unfold b1a;have B:i64 ((q:Int)+1)=((q+1:Nat):Int):=by rw[a42 (by omega) (by omega)];omega
 rw[B];by_cases o:q+1<s.size;.rw[if_pos (by simp;omega)];cases rest with|nil=>exact absurd (j16.1 (i7m h)) (by omega)|cons e r=>
    have j:c3u s (q:Int) (i64 ((q:Int)+2))=some ⟨#[c,e]⟩:=by have:=i6c (s:=s) (p:=q) (a:=[c,e]) (rest:=r) h (by omega);rw[e9 (by omega) (by omega)];exact this
    simp only[j,qA,y3];have f:∀(a b:UInt8)(x:A4),x=⟨#[a,b]⟩->(iv a==60||iv a==62)=true->(iv b==61||iv b==62)=true->(((⟨#[c,e]⟩:A4).toList==x.toList))=false:=by intro a b x w l n;subst w;cases i:((⟨#[c,e]⟩:A4).toList==(⟨#[a,b]⟩:A4).toList)with|false=>rfl|true=>
       have i:=eq_of_beq i;rw[ByteArray.toList_eq,ByteArray.toList_eq]at i;have i:[c,e]=[a,b]:=i;injection i with y k;injection k with k _;subst y;subst k;rcases v with⟨A,t⟩|g;.rw[A,t]at l;cases l
       .have g:=g e r rfl;have g:(iv e==61||iv e==62)=false:=g;rw[g]at n;cases n
    rw[f 60 61 d28 rfl (by decide) (by decide),f 62 61 d30 rfl (by decide) (by decide),f 60 62 d1k rfl (by decide) (by decide)];exact m
 .rw[if_neg (by simp;omega)];exact m
def j4l{s:A4}(k:s.size<=8000){q:Nat}{c c2:UInt8}{rest:O UInt8}(h:rmn s q=c::c2::rest)(b:(c,c2)=(60,61)\/(c,c2)=(62,61)\/(c,c2)=(60,62)):b1a s (q:Int)=some 2:=by
 have i:=i8x h;have e:=i8x (i7m h);unfold b1a;have j:i64 ((q:Int)+1)=((q+1:Nat):Int):=by rw[a42 (by omega) (by omega)];omega
 rw[j,if_pos (by simp;omega)];have d:c3u s (q:Int) (i64 ((q:Int)+2))=some ⟨#[c,c2]⟩:=by have:=i6c (s:=s) (p:=q) (a:=[c,c2]) (rest:=rest) h (by omega);rw[e9 (by omega) (by omega)];exact this
 simp only[d,qA,y3,ByteArray.toList_eq];rcases b with b|b|b<;>(injection b with g f;subst g;subst f;rfl)
def j88{s:A4}(j:s.size<=8000){p:Nat}{b:Bool}{t:Tk}{w rest:O UInt8}(h:rmn s p=blk b++(w++rest))(X:p<=s.size)(hl:LxOK t w rest):∃A,TkR A t/\(A.Kind==0)=false/\b15 s (p:Int)=some (A,((p+(blk b).length+w.length:Nat):Int),0)/\p+(blk b).length+w.length<=s.size/\1<=w.length:=by
 have i:rmn s (p+(blk b).length)=w++rest:=i9k h;have C:=i6t h X;obtain⟨q,E⟩:∃q,p+(blk b).length=q:=⟨_,rfl⟩;have Q:(∀c r,w++rest=c::r->j1r c=true)->b16 s (p:Int)=some (q:Int):=λhh=>by rw[<-E];exact j3f j h X hh
 rw[E]at i C⊢;have N:=i6t i C;have f:∀(c:UInt8)(r:O UInt8),w++rest=c::r->j1r c=true->∀o,(∀k,k=iv c->q<s.size->(if h2f k=true then(a9f s (q:Int) false).bind λY=>joinC a1o (s,(q:Int),(⟨0,a3j,0⟩:Token),1,Y,decide (Y<=12))else if h2u k=true then(a9f s (q:Int) true).bind λF=>(c3u s (q:Int) (i64 ((q:Int)+F))).bind λP=>(a6z P).bind λK=>joinC a1o (s,(q:Int),(⟨0,a3j,0⟩:Token),2,F,K.2.2.2)else if(k==64)=true then(if decide ((i64 ((s.size:Int)-(q:Int)))>=11)=true then(c3u s (i64 ((q:Int)+1)) (i64 ((q:Int)+11))).bind λL=>(a47 L).bind λM=>joinC a1o (s,(q:Int),(⟨0,a3j,0⟩:Token),3,11,M.2)else joinC a1o (s,(q:Int),(⟨0,a3j,0⟩:Token),3,11,decide ((i64 ((s.size:Int)-(q:Int)))>=11)))else(b1a s (q:Int)).bind λB=>joinC a1o (s,(q:Int),(⟨0,a3j,0⟩:Token),4,B,decide (B>0)))=o)->b15 s (p:Int)=o:=by
  intro c r hw G o ho;have hc:rmn s q=c::r:=by rw[i,hw]
  have D:=i8x hc;have I:b3c s (q:Int)=some (iv c):=i6v hc;unfold b15;have W:(decide ((p:Int)<0))=false:=by simp
  have J:(decide ((p:Int)>(s.size:Int)))=false:=by simp;omega
  have e3:((q:Int)==(s.size:Int))=false:=by simp;omega
  simp only[W,J,y3,Bool.or_false,qM,if_false,qA,Q (λc' r' Z=>by rw[hw]at Z;injection Z with a _;rw[<-a];exact G),e3,I,d0j,c7p];exact ho _ rfl D
 have H:∀c:UInt8,j1r c=true↔¬(iv c=10\/iv c=35\/iv c=9\/iv c=13\/iv c=32):=λc=>by unfold j1r;simp;omega
 cases hl with|w e u I m=>rename_i c w;have V:=j6p j (b:=false) i (by omega) m u;refine⟨⟨1,⟨(c::w).toArray⟩,(q:Int)⟩,⟨rfl,rfl⟩,rfl,?_,by omega,by simp⟩;refine f c (w++rest) rfl ((H c).2 (by unfold h2f at e;simp at e;omega)) _ λk l _=>?_;subst l;rw[if_pos e,V,qA,decide_eq_true (show((c::w).length:Int)<=12by omega)];exact j34 j i (by omega) 1 _|n e u I m h5 h6=>
   rename_i c w v d x y;have V:=j6p j (b:=true) i (by omega) m I;refine⟨⟨2,⟨(c::w).toArray⟩,(q:Int)⟩,⟨rfl,h6,?_⟩,rfl,?_,by omega,by simp⟩;.rw[j2n];unfold h2u iv at e;simp at e⊢;omega
   .refine f c (w++rest) rfl ((H c).2 (by unfold h2u at e;simp at e;omega)) _ λk l _=>?_;subst l;have T:=i6c (s:=s) (p:=q) (a:=c::w) (rest:=rest) i (by omega);rw[if_neg (by rw[u];decide),if_pos e,V,qA,e9 (by omega) (by omega),T,qA,h5,qA];exact j34 j i (by omega) 2 _|d e u=>
   rename_i w U;have g:=i6c (s:=s) (p:=q+1) (a:=w) (rest:=rest) (i7m i) (by simp at N;omega);have z:((64:UInt8)::w).length=11:=by simp[e]
   refine⟨⟨3,⟨(64::w).toArray⟩,(q:Int)⟩,⟨rfl,?_,?_⟩,rfl,?_,by omega,by simp⟩
   .show b09 ⟨(64::w).toArray⟩=some U;unfold b09;have R:(⟨(64::w).toArray⟩:A4).size=11:=by rw[i6n];exact z
    have m:=i6c (s:=⟨(64::w).toArray⟩) (p:=1) (a:=w) (rest:=[]) (by simp[rmn]) (by omega);have m:c3u (⟨(64::w).toArray⟩:A4) 1 ((⟨(64::w).toArray⟩:A4).size:Int)=some ⟨w.toArray⟩:=by rw[R];rw[e]at m;exact m
    rw[m,qA,u];rfl
   .rw[j2n];rfl
   .refine f 64 (w++rest) rfl rfl _ λk l D=>?_;subst l;rw[if_neg (by decide),if_neg (by decide),if_pos (by decide),if_pos (by rw[e9 (by omega) (by omega)];simp;omega)];rw[a42 (by omega) (by omega),e9 (n:=(q:Int)+11) (by omega) (by omega)];have g:c3u s ((q:Int)+1) ((q:Int)+11)=some ⟨w.toArray⟩:=by rw[e]at g;rw[show(q:Int)+1=((q+1:Nat):Int)by omega,show(q:Int)+11=((q+1:Nat):Int)+((10:Nat):Int)by omega];exact g
    rw[g,qA,u,qA];have:=j34 j i (by omega) 3 ⟨0,a3j,0⟩;rw[z]at this⊢;exact this|s1 e u=>
   rename_i c;have g:=j44 j (rest:=rest) i e u;have S:iv c=60\/iv c=62\/iv c=61\/iv c=43\/iv c=45\/iv c=42\/iv c=47\/iv c=40\/iv c=41\/iv c=123\/iv c=125\/iv c=44\/iv c=59:=by unfold j2w at e;simpa using e
   refine⟨⟨4,⟨#[c]⟩,(q:Int)⟩,⟨rfl,rfl⟩,rfl,?_,by omega,by simp⟩;refine f c rest rfl ((H c).2 (by omega)) _ λk l _=>?_;subst l;rw[if_neg (by unfold h2f;simp;omega),if_neg (by unfold h2u;simp;omega),if_neg (by simp;omega),g,qA];exact j34 j i (by omega) 4 _|s2 e=>
   rename_i c c2;have g:=j4l j (rest:=rest) i e;have S:iv c=60\/iv c=62:=by rcases e with e|e|e<;>(injection e with W J;subst W;subst J;decide)
   refine⟨⟨4,⟨#[c,c2]⟩,(q:Int)⟩,⟨rfl,rfl⟩,rfl,?_,by omega,by simp⟩;refine f c (c2::rest) rfl ((H c).2 (by omega)) _ λk l _=>?_;subst l;rw[if_neg (by unfold h2f;simp;omega),if_neg (by unfold h2u;simp;omega),if_neg (by simp;omega),g,qA];exact j34 j i (by omega) 4 _
structure Lx where
 t:Tk
 w:List UInt8
 sp:Bool
def i40:O Lx->O UInt8|[]=>[]|l::a=>l.w++(blk l.sp++i40 a)
def okL:O Lx->Prop|[]=>True|l::a=>LxOK l.t l.w (blk l.sp++i40 a)/\okL a
def k0l{s:A4}(x:s.size<=8000):∀(d:O Lx)(p:Nat)(b:Bool)(a:O Token)(k:Nat),rmn s p=blk b++i40 d->p<=s.size->okL d->a.length<=p->d.length<k->∃c,d9 k (b7c s) (a,(p:Int))=some (a++c,0,0)/\y7 TkR c (d.map (·.t))/\a.length+c.length<=s.size:=by
 intro d;induction d with|nil=>
   intro p b a k h n _ F o;obtain⟨k,rfl⟩:∃m,k=m+1:=⟨k-1,by simp at o;omega⟩;have q:=j3f (w:=[]) x h n (λ_ _ h=>by cases h);have A:rmn s (p+(blk b).length)=[]:=i9k (rest:=[]) h;have I:=i6t (rest:=[]) h n;have D:=j16.1 A;refine⟨[],?_,trivial,by simp;omega⟩;rw[d24];unfold b7c b15;have G:(decide ((p:Int)<0))=false:=by simp
   have B:(decide ((p:Int)>(s.size:Int)))=false:=by simp;omega
   have C:(((p+(blk b).length:Nat):Int)==(s.size:Int))=true:=by simp;omega
   simp only[G,B,y3,Bool.or_false,qM,if_false,qA,q,C,if_true,List.append_nil,show((0:Int)!=0)=false from rfl,BEq.rfl]|cons l d H=>intro p b a k h n i F o;have o:d.length+1<k:=o;obtain⟨k,rfl⟩:∃m,k=m+1:=⟨k-1,by omega⟩;obtain⟨f,E,v,z,u,J⟩:=j88 x h n i.1;have r:rmn s (p+(blk b).length+l.w.length)=blk l.sp++i40 d:=i9k (i9k h);obtain⟨c,e,g,j⟩:=H (p+(blk b).length+l.w.length) l.sp (a++[f]) k r u i.2 (by simp;omega) (by omega);refine⟨f::c,?_,⟨E,g⟩,by simp at j⊢;omega⟩;rw[d24];generalize y:d9 k (b7c s)=K at e⊢;unfold b7c;simp only[z,qA,show((0:Int)!=0)=false from rfl,qM,if_false,v];rw[show a4n 32 a [f]=some (a++[f])from p6 (by simp;omega),qA,e,qQ];rfl
def j3m{s:A4}(g:s.size<=8000)(b:O Lx)(h:s.data.toList=i40 b)(c:okL b)(i:b.length<=8000):∃a,b25 s=some (a,0,0)/\y7 TkR a (b.map (·.t))/\a.length<=8000:=by obtain⟨a,e,d,f⟩:=k0l g b 0 false [] FU h (Nat.zero_le _) c (Nat.zero_le _) (by have:=i4b;omega);refine⟨a,?_,d,by simp at f;omega⟩;unfold b25;rw[if_neg (by simp;omega)];exact e
def j1s(l:O UInt8):Int:=l.foldl (λx c=>x*10+(iv c-48)) 0
def i7i(l:O UInt8)(c:UInt8):j1s (l++[c])=j1s l*10+(iv c-48):=by simp[j1s]
def j66{d:Nat}(h:d<10):iv (UInt8.ofNat (48+d))=48+(d:Int):=by
 have:d=0\/d=1\/d=2\/d=3\/d=4\/d=5\/d=6\/d=7\/d=8\/d=9:=by omega
 rcases this with rfl|rfl|rfl|rfl|rfl|rfl|rfl|rfl|rfl|rfl<;>rfl
structure Dg(n:Nat)(l:List UInt8):Prop where
 dig:∀c∈l,h2u (iv c)=true
 val:j1s l=(n:Int)ne:l≠[]hd:1<l.length->∀c r,l=c::r->iv c≠48
def j3o:∀(k u:Nat),u<10^(k+1)->Dg u (g4v k u):=by
 have f:∀u,u<10->Dg u [UInt8.ofNat (48+u)]:=λu g=>by have h:=j66 g;exact⟨λc a=>by rw[qF]at a;subst a;rw[h];unfold h2u;simp;omega,by show(0:Int)*10+(iv (UInt8.ofNat (48+u))-48)=_;rw[h];omega,by simp,λh=>by simp at h⟩
 intro k;induction k with|zero=>intro u h;exact f u (by simpa using h)|succ k l=>
   intro u h;unfold g4v;split;.exact f u (by assumption)
   .rename_i g;have e:=l (u/10) (by rw[Nat.pow_succ]at h;omega);have h:=j66 (d:=u%10) (by omega);refine⟨λc a=>?_,?_,by simp,λm c r i=>?_⟩
    .rcases qK.1 a with a|a;.exact e.dig c a
     .rw[qF]at a;subst a;rw[h];unfold h2u;simp;omega
    .rw[i7i,e.val,h];omega
    .cases b:g4v k (u/10)with|nil=>exact absurd b e.ne|cons x y=>
       rw[b]at i;have j:x=c:=by injection i
       subst j;cases y with|nil=>have:=e.val;rw[b]at this;simp[j1s]at this;omega|cons z t=>exact e.hd (by rw[b];simp) x (z::t) b
def i6e:∀(k u m:Nat),u<10^(m+1)->(g4v k u).length<=m+1
 |0,u,m,h=>by simp[g4v]|k+1,u,m,h=>by
   unfold g4v;split;.simp
   .rename_i b;cases m with|zero=>simp at h;omega|succ m=>have:=i6e k (u/10) m (by rw[Nat.pow_succ]at h;omega);simp;omega
def j2e{d:Nat}(h:d<10):c3u a6h (d:Int) (i64 ((d:Int)+1))=some ⟨#[UInt8.ofNat (48+d)]⟩:=by
 have:d=0\/d=1\/d=2\/d=3\/d=4\/d=5\/d=6\/d=7\/d=8\/d=9:=by omega
 rcases this with rfl|rfl|rfl|rfl|rfl|rfl|rfl|rfl|rfl|rfl<;>rfl
def i9w{a b:O UInt8}(h:a.length+b.length<=100000):a7f ⟨a.toArray⟩ ⟨b.toArray⟩=some ⟨(a++b).toArray⟩:=by unfold a7f;rw[if_pos (by rw[i6n,i6n];simp;omega)];congr 1
def j2p:∀(k u:Nat)(c:O UInt8)(j:Nat),u<10^(k+1)->u<1000000->c.length+k<=1000->k<j->d9 j b54 ((u:Int),⟨c.toArray⟩)=some ⟨(g4v k u++c).toArray⟩:=by
 have d:∀(u:Nat)(c:O UInt8)(r:(Int×A4)->A3 A4),u<10->c.length<=1000->b54 r ((u:Int),⟨c.toArray⟩)=some ⟨([UInt8.ofNat (48+u)]++c).toArray⟩:=by intro u c r f g;unfold b54;rw[if_neg (by simp;omega)];show(c3u a6h (u:Int) (i64 ((u:Int)+1))).bind _=_;rw[j2e f,qA];have:=i9w (a:=[UInt8.ofNat (48+u)]) (b:=c) (by simp;omega);show(a7f ⟨#[UInt8.ofNat (48+u)]⟩ ⟨c.toArray⟩).bind _=_;rw[show(⟨#[UInt8.ofNat (48+u)]⟩:A4)=⟨[UInt8.ofNat (48+u)].toArray⟩from rfl,this,qA]
 intro k;induction k with|zero=>intro u c j h _ g n;obtain⟨j,rfl⟩:∃m,j=m+1:=⟨j-1,by omega⟩;rw[d24];exact d u c _ (by simpa using h) (by omega)|succ k e=>
   intro u c j h o g n;obtain⟨j,rfl⟩:∃m,j=m+1:=⟨j-1,by omega⟩;rw[d24];unfold g4v;split;.exact d u c _ (by assumption) (by omega)
   .rename_i f;have e:=e (u/10) (UInt8.ofNat (48+u%10)::c) j (by rw[Nat.pow_succ]at h;omega) (by omega) (by simp;omega) (by omega);generalize d9 j b54=p at e⊢;unfold b54;rw[if_pos (by simp;omega)];have l:b8t (u:Int) 10=some ((u%10:Nat):Int):=by unfold b8t;rw[if_neg (by decide),Int.tmod_eq_emod_of_nonneg (by omega)];congr 1
    have i:c2t (u:Int) 10=some ((u/10:Nat):Int):=by unfold c2t;rw[if_neg (by decide),Int.tdiv_eq_ediv_of_nonneg (by omega),e9 (by omega) (by omega)];congr 1
    simp only[l,i,qA,j2e (show u%10<10by omega)];have:=i9w (a:=[UInt8.ofNat (48+u%10)]) (b:=c) (by simp;omega);rw[show(⟨#[UInt8.ofNat (48+u%10)]⟩:A4)=⟨[UInt8.ofNat (48+u%10)].toArray⟩from rfl,this,qA,qQ];exact e
def i5o{u:Nat}(h:u<1000000):i8 (u:Int)=some ⟨(g4v 20 u).toArray⟩:=by have:=j2p 20 u [] FU (by omega) h (by decide) (by have:=i4b;omega);rw[List.append_nil]at this;exact this
def i9b(l:O UInt8):(⟨l.toArray⟩:A4).size=l.length:=by rw[i6n]
def i5p{l:O UInt8}{i:Nat}{c:UInt8}(h:l[i]?=some c):b3c ⟨l.toArray⟩ (i:Int)=some (iv c):=by refine i6v (rest:=l.drop (i+1)) ?_;unfold rmn;have a:=(qD.1 h).1;show l.drop i=_;rw[List.drop_eq_getElem_cons a,(qD.1 h).2]
def i9q{a b:O UInt8}:c3u ⟨(a++b).toArray⟩ 0 (a.length:Int)=some ⟨a.toArray⟩:=by have:=i6c (s:=⟨(a++b).toArray⟩) (p:=0) (a:=a) (rest:=b) rfl (Nat.zero_le _);simpa using this
def i5q{c:UInt8}(h:h2u (iv c)=true):48<=iv c/\iv c<=57:=by unfold h2u at h;simpa using h
section
variable {n:Nat} {l:O UInt8}
def i6q(h:Dg n l)(G:l.length<=9)(d:Int):joinC a45 (⟨l.toArray⟩,d)=some (⟨l.toArray⟩,a3j,d,true):=by
 have w:1<=l.length:=by cases l with|nil=>exact absurd rfl h.ne|cons _ _=>simp
 have x:∀(m i k:Nat),i+m=l.length->m<k->d9 k (b5u (d,⟨l.toArray⟩,a3j)) (i:Int)=some (⟨l.toArray⟩,a3j,d,true):=by
  intro m;induction m with|zero=>
    intro i k y v;obtain⟨k,rfl⟩:∃m,k=m+1:=⟨k-1,by omega⟩;rw[d24];unfold b5u;have u:i64 ((l.length:Int)+(a3j.size:Int))=(l.length:Int):=by
     have j:(l.length:Int)+(a3j.size:Int)=(l.length:Int):=by rw[show a3j.size=0from rfl];simp
     rw[j,e9 (by omega) (by omega)]
    simp only[i9b,u];rw[if_neg (by simp;omega)];have B:decide ((l.length:Int)<1)=false:=by simp;omega
    have A:decide ((l.length:Int)>9)=false:=by simp;omega
    simp only[B,A,qM,if_false,qA];by_cases q:1<l.length;.cases o:l with|nil=>exact absurd o h.ne|cons c r=>
       have s:=h.hd q c r o;rw[o]at q;have t:decide (((c::r).length:Int)>1)=true:=by simp at q⊢;omega
       have j:b3c ⟨(c::r).toArray⟩ 0=some (iv c):=i5p (i:=0) rfl;have D:(iv c==48)=false:=by simpa using s
       simp only[t,if_true,j,qA,D,qM,if_false]
    .have t:decide ((l.length:Int)>1)=false:=by simp;omega
     simp only[t,qM,if_false,qA]|succ m g=>
    intro i k y v;obtain⟨k,rfl⟩:∃m,k=m+1:=⟨k-1,by omega⟩;have g:=g (i+1) k (by omega) (by omega);rw[d24];generalize d9 k (b5u (d,⟨l.toArray⟩,a3j))=z at g⊢;unfold b5u;have u:i64 ((l.length:Int)+(a3j.size:Int))=(l.length:Int):=by
     have j:(l.length:Int)+(a3j.size:Int)=(l.length:Int):=by rw[show a3j.size=0from rfl];simp
     rw[j,e9 (by omega) (by omega)]
    have o:a7f ⟨l.toArray⟩ a3j=some ⟨l.toArray⟩:=by have:=i9w (a:=l) (b:=[]) (by simp;omega);rw[List.append_nil]at this;exact this
    obtain⟨c,f⟩:∃c,l[i]?=some c:=⟨l[i]'(by omega),qG (by omega)⟩;simp only[i9b,u];rw[if_pos (by simp;omega)];simp only[o,qA,i5p f,c7p,h.dig c (qE f),qU,qM,if_false];rw[a42 (by omega) (by omega)];exact g
 have C:∀(m k:Nat),m<=l.length->m<k->d9 k (b5t (⟨l.toArray⟩,d)) (((⟨l.toArray⟩:A4).size:Int),(m:Int)-1)=some (⟨l.toArray⟩,a3j,d,true):=by intro m;induction m with|zero=>
    intro k _ v;obtain⟨k,rfl⟩:∃m,k=m+1:=⟨k-1,by omega⟩;rw[d24];unfold b5t;have E:c3u ⟨l.toArray⟩ 0 (l.length:Int)=some ⟨l.toArray⟩:=by have:=i9q (a:=l) (b:=[]);rw[List.append_nil]at this;exact this
    rw[if_neg (by simp)];simp only[i9b,E,qA,decide_eq_false (show¬(l.length:Int)<(l.length:Int)by omega),qM,if_false];exact x l.length 0 FU (by omega) (by have:=i4b;omega)|succ m g=>
    intro k H v;obtain⟨k,rfl⟩:∃m,k=m+1:=⟨k-1,by omega⟩;have g:=g k (by omega) (by omega);rw[d24];generalize d9 k (b5t (⟨l.toArray⟩,d))=z at g⊢;unfold b5t;obtain⟨c,f⟩:∃c,l[m]?=some c:=⟨l[m]'(by omega),qG (by omega)⟩;have F:=i5q (h.dig c (qE f));have e:((m+1:Nat):Int)-1=(m:Int):=by omega
    simp only[e];rw[if_pos (by simp)];have p:(iv c==46)=false:=by simp;omega
    simp only[i5p f,qA,p,qM,if_false];rw[e9 (by omega) (by omega)];exact g
 unfold joinC a45;have:=C l.length FU (Nat.le_refl _) (by have:=i4b;omega);rw[i9b]at this⊢;rw[e9 (by omega) (by omega)];exact this
def j8o:O UInt8->Int->Prop:=λs d=>(s=[]/\d=2)\/(s=[100]/\d=3)\/(s=[109]/\d=4)
def i7j(h:Dg n l)(j:l.length<=9){s:O UInt8}{d:Int}(p:j8o s d):a6z ⟨(l++s).toArray⟩=some (⟨l.toArray⟩,a3j,d,true):=by
 obtain⟨m,c,rfl⟩:∃m c,l=m++[c]:=by
  rcases eq_nil_or_concat l with i|⟨m,c,i⟩;.exact absurd i h.ne
  .exact⟨m,c,by simpa using i⟩
 have q:=i5q (h.dig c (by simp));have a:(m++[c]).length=m.length+1:=by simp
 unfold a6z;rcases p with⟨rfl,rfl⟩|⟨rfl,rfl⟩|⟨rfl,rfl⟩
 .simp only[List.append_nil];have e:((⟨(m++[c]).toArray⟩:A4).size:Int)=(m.length:Int)+1:=by rw[i9b,a];rfl
  have f:decide ((m.length:Int)+1>0)=true:=by simp
  have g:b3c ⟨(m++[c]).toArray⟩ (i64 ((m.length:Int)+1-1))=some (iv c):=by rw[e9 (by omega) (by omega),show(m.length:Int)+1-1=(m.length:Int)by omega];exact i5p (by simp)
  have k:(iv c==100)=false:=by simp;omega
  have o:(iv c==109)=false:=by simp;omega
  simp only[e,f,if_true,g,qA,k,o,qM,if_false];exact i6q h j 2
 .have e:((⟨(m++[c]++[100]).toArray⟩:A4).size:Int)=(m.length:Int)+2:=by rw[i9b];simp
  have f:decide ((m.length:Int)+2>0)=true:=by simp;omega
  have e9:i64 ((m.length:Int)+2-1)=((m++[c]).length:Int):=by rw[e9 (by omega) (by omega),a];omega
  have g:b3c ⟨(m++[c]++[100]).toArray⟩ ((m++[c]).length:Int)=some 100:=i5p (c:=100) (by simp);simp only[e,f,if_true,e9,g,qA,BEq.rfl,i9q];exact i6q h j 3
 .have e:((⟨(m++[c]++[109]).toArray⟩:A4).size:Int)=(m.length:Int)+2:=by rw[i9b];simp
  have f:decide ((m.length:Int)+2>0)=true:=by simp;omega
  have e9:i64 ((m.length:Int)+2-1)=((m++[c]).length:Int):=by rw[e9 (by omega) (by omega),a];omega
  have g:b3c ⟨(m++[c]++[109]).toArray⟩ ((m++[c]).length:Int)=some 109:=i5p (c:=109) (by simp);simp only[e,f,if_true,e9,g,qA,BEq.rfl,i9q,show((109:Int)==100)=false from rfl,qM,if_false];exact i6q h j 4
def j7k:∀(l:O UInt8)(x:Int)(N:Nat),(∀c∈l,h2u (iv c)=true)->0<=x->x<10^N->0<=l.foldl (λx c=>x*10+(iv c-48)) x/\l.foldl (λx c=>x*10+(iv c-48)) x<10^(N+l.length):=by intro l;induction l with|nil=>intro x N _ d a;exact⟨d,a⟩|cons c l f=>intro x N b d a;have g:=i5q (b c (by simp));have:=f (x*10+(iv c-48)) (N+1) (λy e=>b y (by simp[e])) (by omega) (by rw[Int.pow_succ];omega);rw[List.foldl_cons,qR,show N+(l.length+1)=N+1+l.length by omega];exact this
def i6w(l:O UInt8)(h:∀c∈l,h2u (iv c)=true):0<=j1s l/\j1s l<10^l.length:=by have:=j7k l 0 0 h (by decide) (by decide);rw[Nat.zero_add]at this;exact this
end
def i7x:∃m,FU=m+1+1:=⟨FU-2,by have:=i4b;omega⟩
def k1v{n:Int}(h:0<=n):b8t n 1=some 0:=by rw[d04 (by decide),c9f h];simp
def quo1{n:Int}(h:0<=n)(a:n<=9223372036854775807):c2t n 1=some n:=by rw[e9a (by decide),Int.tdiv_one,e9 (by omega) a]
def k1h{n:Int}(a:0<=n)(c:n<=1000000000000000):a3h ⟨0,n⟩ 1=some (⟨0,n⟩,0):=by
 unfold a3h;simp only[show b8t 0 1=some 0from rfl,qA];have b:a8o 0 n 1=some (n,0):=by unfold a8o joinC b9j joinC b9t;simp only[show((1:Int)==0)=false from rfl,show decide ((1:Int)<=0)=false from rfl,qM,if_false,BEq.rfl,if_true,show¬((1:Int)=0)by decide,Int.tdiv_one,k1v a,qA,b83 a (show n<=18446744073709551615by omega)]
 simp only[b,qA,show¬((1:Int)=0)by decide,if_false];rfl
def k1u{n:Int}(b:0<=n):a9s n 1=some 1:=by unfold a9s;obtain⟨m,a⟩:=i7x;rw[a,d24];unfold b7e;simp only[show((1:Int)!=0)=true from rfl,if_true,k1v b,qA];rw[d24];simp only[show((0:Int)!=0)=false from rfl,qM,if_false]
def j9r:a9s 1 0=some 1:=by unfold a9s;obtain⟨m,a⟩:=i7x;rw[a,d24];rfl
def k27{n:Int}(b:0<=n)(f:n<=1000000000000000):a3r n 1=some (⟨n,1⟩,0):=by
 unfold a3r;obtain⟨x,d,_,_,e⟩:=c7c n;have e:=e b (by omega);subst e;unfold b2l;have c:decide (x<0)=false:=by simp;omega
 have a:decide (x>1000000000000000)=false:=by simp;omega
 simp only[show((1:Int)==0)=false from rfl,qM,if_false,d,show a43 1=some 1from rfl,qA,k1h b f,j9r,show¬((1:Int)=0)by decide,c,a,show u64 (Int.tdiv 1 1)=1from rfl,show((0:Int)!=0)=false from rfl,show decide ((1:Int)>1000000000)=false from rfl,show decide ((1:Int)<0)=false from rfl,bne_self_eq_false,e9 (show-9223372036854775808<=x by omega) (show x<=9223372036854775807by omega),show i64 1=1from rfl]
def k0j{n:Int}(b:0<=n)(f:n<=1000000000000000):a1h ⟨n,1⟩=some true:=by
 unfold a1h;obtain⟨x,d,_,_,e⟩:=c7c n;have e:=e b (by omega);subst e;have c:decide (x>=-1000000000000000)=true:=by simp;omega
 have a:decide (x<=1000000000000000)=true:=by simp;omega
 simp only[show decide ((1:Int)>=1)=true from rfl,show decide ((1:Int)<=1000000000)=true from rfl,if_true,qA,c,a,d,show u64 1=1from rfl,k1u b,BEq.rfl]
section
variable {n:Nat} {l:O UInt8}
def j2d(h:Dg n l)(v:l.length<=9){s:O UInt8}{d:Int}(B:j8o s d):a2x ⟨(l++s).toArray⟩=some (⟨(n:Int),1⟩,d,true):=by
 unfold a2x;rw[i7j h v B,qA];simp only[qU,qM,if_false];have H:=i6w l h.dig;have I:(10:Int)^l.length<=1000000000:=by
  have:(10:Nat)^l.length<=10^9:=Nat.pow_le_pow_right (by decide) v;have u:((10^l.length:Nat):Int)<=((10^9:Nat):Int):=by exact_mod_cast this
  simpa using u
 have z:∀(b a:O UInt8)(k:Nat),a++b=l->b.length<k->d9 k (b3f (⟨l.toArray⟩,a3j,d,true)) ((⟨0,0⟩:fQ),j1s a,1,(a.length:Int))=some (⟨(n:Int),1⟩,d,true):=by
  intro b;induction b with|nil=>
    intro a k e r;obtain⟨k,rfl⟩:∃m,k=m+1:=⟨k-1,by omega⟩;rw[List.append_nil]at e;subst e;rw[d24];unfold b3f;have o:i64 ((a.length:Int)+(a3j.size:Int))=(a.length:Int):=by
     have j:(a.length:Int)+(a3j.size:Int)=(a.length:Int):=by rw[show a3j.size=0from rfl];simp
     rw[j,e9 (by omega) (by omega)]
    simp only[i9b,o];rw[if_neg (by simp),h.val,k27 (by omega) (by rw[<-h.val];omega)];rfl|cons c b g=>
    intro a k e r;have r:b.length+1<k:=r;obtain⟨k,rfl⟩:∃m,k=m+1:=⟨k-1,by omega⟩;have g:=g (a++[c]) k (by rw[qQ];exact e) (by omega);have y:a.length+1+b.length=l.length:=by rw[<-e];simp;omega
    have C:c∈l:=by rw[<-e];simp
    have A:=i5q (h.dig c C);have t:=i6w (a++[c]) λx f=>h.dig x (by rw[<-e];simp at f⊢;rcases f with f|f<;>simp[f]);have D:(10:Int)^(a++[c]).length<=1000000000:=by
     have:(10:Nat)^(a++[c]).length<=10^9:=Nat.pow_le_pow_right (by decide) (by simp;omega);have u:((10^(a++[c]).length:Nat):Int)<=((10^9:Nat):Int):=by exact_mod_cast this
     simpa using u
    have w:=i6w a λx f=>h.dig x (by rw[<-e];simp[f]);rw[i7i]at g t;rw[d24];generalize d9 k (b3f (⟨l.toArray⟩,a3j,d,true))=G at g⊢;unfold b3f;have o:i64 ((l.length:Int)+(a3j.size:Int))=(l.length:Int):=by
     have j:(l.length:Int)+(a3j.size:Int)=(l.length:Int):=by rw[show a3j.size=0from rfl];simp
     rw[j,e9 (by omega) (by omega)]
    have p:a7f ⟨l.toArray⟩ a3j=some ⟨l.toArray⟩:=by have:=i9w (a:=l) (b:=[]) (by simp;omega);rw[List.append_nil]at this;exact this
    have i:l[a.length]?=some c:=by rw[<-e];simp
    simp only[i9b,o];rw[if_pos (by simp;omega)];simp only[p,qA,i5p i];rw[if_neg (by simp;omega)];have F:i64 (j1s a*10)=j1s a*10:=e9 (by omega) (by omega);have E:i64 (IntKind.u8.wrap (iv c-48))=iv c-48:=by
     have:IntKind.u8.wrap (iv c-48)=iv c-48:=by unfold IntKind.wrap;simp[IntKind.bits,IntKind.signed];omega
     rw[this,e9 (by omega) (by omega)]
    rw[F,E,e9 (by omega) (by omega),a42 (by omega) (by omega)];have q:((a++[c]).length:Int)=(a.length:Int)+1:=by simp
    rw[q]at g;exact g
 exact z l [] FU rfl (by have:=i4b;omega)
def j1z{n:Int}(e:0<=n)(w:n<=100000){d:Int}(v:2<=d)(A:d<=4):∃s,a1g ⟨n,1⟩ d=some (s,true):=by
 unfold a1g;obtain⟨x,k,g⟩:=c3m (n:=n) e (by omega);have r:decide (n<0)=false:=by simp;omega
 have p:decide (d<2)=false:=by simp;omega
 have h:decide (d>4)=false:=by simp;omega
 have u:decide (n>999999999)=false:=by simp;omega
 have q:i64 (n*1)=n:=by rw[Int.mul_one];exact e9 (by omega) (by omega)
 have j:i64 (i64 (n-n)*10000)=0:=by rw[show n-n=0 by omega];rfl
 simp only[k0j e (show n<=1000000000000000by omega),qA,qU,qM,if_false,r,show b8t 10000 1=some 0from rfl,bne_self_eq_false,p,h,quo1 e (show n<=9223372036854775807by omega),u,k,show c2t 10000 1=some 10000from rfl,q,j,show decide ((0:Int)>0)=false from rfl];unfold joinC a1u;obtain⟨m,c⟩:=i7x;rw[c,d24];unfold a93;simp only[show decide ((0:Int)>0)=false from rfl,qM,if_false];rw[show i64 (d-2)=d-2from e9 (by omega) (by omega)];obtain⟨y,f,c⟩:=c6 (l:=[a3j,e4t,e6u]) (i:=d-2) (by omega) (by simp;omega);have t:y.size<=1:=by simp at c;rcases c with rfl|rfl|rfl<;>decide
 obtain⟨z,o,_⟩:=d6 (a:=x) (b:=y) (by omega);simp only[f,o,qA];exact⟨_,rfl⟩
end
def j33{l:O UInt8}(h:∀c∈l,c≠46):g6v ⟨l.toArray⟩ 46=-1:=by
 unfold g6v;have:(List.range (⟨l.toArray⟩:A4).size).find? (λi=>(⟨l.toArray⟩:A4)[i]! ==(46:Int).toNat.toUInt8)=none:=by
  rw[find?_eq_none];intro i a;rw[mem_range,i9b]at a;have e:(⟨l.toArray⟩:A4)[i]! =l[i]:=by rw[getElem!_pos _ i (by rw[i9b];exact a)];rfl
  rw[e];have:=h l[i] (qV a);simpa using this
 rw[this]
section
variable {n:Nat} {l:O UInt8}
def Dg.no46(h:Dg n l):∀c∈l,c≠46:=by intro c a b;have:=i5q (h.dig c a);subst b;revert this;decide
def j2m(h:Dg n l)(C:l.length<=9):b2i ⟨l.toArray⟩=some ((n:Int),true):=by
 unfold b2i;have s:∀(b a:O UInt8)(k:Nat),a++b=l->b.length<k->d9 k (c0d ⟨l.toArray⟩) (j1s a,(a.length:Int))=some ((n:Int),true):=by intro b;induction b with|nil=>intro a k d j;obtain⟨k,rfl⟩:∃m,k=m+1:=⟨k-1,by omega⟩;rw[List.append_nil]at d;subst d;rw[d24];unfold c0d;simp only[i9b];rw[if_neg (by simp),h.val]|cons c b f=>
    intro a k d j;have j:b.length+1<k:=j;obtain⟨k,rfl⟩:∃m,k=m+1:=⟨k-1,by omega⟩;have f:=f (a++[c]) k (by rw[qQ];exact d) (by omega);have p:a.length+1+b.length=l.length:=by rw[<-d];simp;omega
    have t:c∈l:=by rw[<-d];simp
    have z:=i5q (h.dig c t);have o:=i6w (a++[c]) λx e=>h.dig x (by rw[<-d];simp at e⊢;rcases e with e|e<;>simp[e]);have v:(10:Int)^(a++[c]).length<=1000000000:=by
     have:(10:Nat)^(a++[c]).length<=10^9:=Nat.pow_le_pow_right (by decide) (by simp;omega);have w:((10^(a++[c]).length:Nat):Int)<=((10^9:Nat):Int):=by exact_mod_cast this
     simpa using w
    have q:=i6w a λx e=>h.dig x (by rw[<-d];simp[e]);rw[i7i]at f o;rw[d24];generalize d9 k (c0d ⟨l.toArray⟩)=B at f⊢;unfold c0d b74;have g:l[a.length]?=some c:=by rw[<-d];simp
    have A:decide (iv c>=48)=true:=by simp;omega
    have r:decide (iv c<=57)=true:=by simp;omega
    simp only[i9b];rw[if_pos (by simp;omega)];simp only[qA,i5p g,A,r,if_true,qU,qM,if_false];have y:i64 (10*j1s a)=j1s a*10:=by rw[Int.mul_comm];exact e9 (by omega) (by omega)
    have u:i64 (IntKind.u8.wrap (iv c-48))=iv c-48:=by
     have:IntKind.u8.wrap (iv c-48)=iv c-48:=by unfold IntKind.wrap;simp[IntKind.bits,IntKind.signed];omega
     rw[this,e9 (by omega) (by omega)]
    rw[y,u,e9 (by omega) (by omega),a42 (by omega) (by omega)];have i:((a++[c]).length:Int)=(a.length:Int)+1:=by simp
    rw[i]at f;exact f
 exact s l [] FU rfl (by have:=i4b;omega)
def j2r(h:Dg n l)(f:l.length<=9):b9e ⟨l.toArray⟩ b1i=some (⟨l.toArray⟩,a3j,false):=by
 have c:a6y ⟨l.toArray⟩ b1i=some (-1):=by
  unfold a6y a9d a7v;have a:(b1i.toList==(⟨l.toArray⟩:A4).toList)=false:=by cases d:(b1i.toList==(⟨l.toArray⟩:A4).toList)with|false=>rfl|true=>
     have e:=eq_of_beq d;have b:(b1i:A4).data.toList=l:=by rw[ByteArray.toList_eq,ByteArray.toList_eq]at e;exact e
     exact absurd rfl (h.no46 46 (by rw[<-b];decide))
  simp only[show((b1i.size:Int)==0)=false from rfl,show((b1i.size:Int)==1)=true from rfl,qM,if_false,if_true,qA,a,show b3c b1i 0=some 46from rfl,j33 h.no46]
 unfold b9e b72;rw[c,qA];rfl
def j17:∃m,FU=m+1+1+1:=⟨FU-3,by have:=i4b;omega⟩
def i7a(h:Dg n l)(o:l.length<=9)(d:Int):joinC a5s (⟨l.toArray⟩,(⟨0,0⟩:fQ),d)=some (⟨(n:Int),1⟩,d,true):=by
 have u:1<=l.length:=by cases l with|nil=>exact absurd rfl h.ne|cons _ _=>simp
 have N:(n:Int)<=1000000000:=by
  have k:=i6w l h.dig;have:(10:Nat)^l.length<=10^9:=Nat.pow_le_pow_right (by decide) o;have J:((10^l.length:Nat):Int)<=((10^9:Nat):Int):=by exact_mod_cast this
  rw[h.val]at k;have P:(10:Int)^l.length<=1000000000:=by simpa using J
  omega
 unfold joinC a5s;have K:decide ((l.length:Int)<1)=false:=by simp;omega
 have D:decide ((l.length:Int)>9)=false:=by simp;omega
 have j:(if(decide ((l.length:Int)>1))then(b3c ⟨l.toArray⟩ 0).bind λI=>some (I==48)else some false)=some false:=by
  by_cases t:1<l.length;.cases p:l with|nil=>exact absurd p h.ne|cons c r=>
     have q:=h.hd t c r p;rw[p]at t;have j:decide (((c::r).length:Int)>1)=true:=by simp at t⊢;omega
     have F:b3c ⟨(c::r).toArray⟩ 0=some (iv c):=i5p (i:=0) rfl;have H:(iv c==48)=false:=by simpa using q
     simp only[j,if_true,F,qA,H]
  .have j:decide ((l.length:Int)>1)=false:=by simp;omega
   simp only[j,qM,if_false]
 have L:b2i a3j=some (0,true):=by unfold b2i;obtain⟨m,g⟩:=i7x;rw[g,d24];rfl
 simp only[j2r h o,qA,i9b,K,D,j,qM,if_false,j2m h o,L,qU];have v:∀(e:Int)(f:(fQ×Int)->A3 (fQ×Int×Bool))(b:fQ×Int),e=2\/e=5->b.1=⟨(n:Int),1⟩->d9 FU (b5e e f b) b.1=f (b.1,i64 (b.2+1)):=by
  intro e f b k G;obtain⟨m,g⟩:=i7x;rw[g,d24];unfold b5e;rw[G];have C:b8t 1 e=some 1:=by rcases k with rfl|rfl<;>rfl
  have s:∃x,b8t (n:Int) e=some x:=by rcases k with rfl|rfl<;>exact⟨_,d04 (by decide)⟩
  obtain⟨x,y⟩:=s;simp only[y,C,qA];cases(x==0)<;>rfl
 obtain⟨m,g⟩:=j17;have M:∀a:fQ×Int×Int×Int,a.2.1=d->d9 FU (c09 a) ((⟨(n:Int),1⟩:fQ),0)=some (⟨(n:Int),1⟩,d,true):=by intro a z;rw[show d9 FU (c09 a)=d9 (m+1+1+1) (c09 a)by rw[<-g]];rw[d24];generalize w:d9 (m+1+1) (c09 a)=A;unfold c09;simp only[show decide ((0:Int)<2)=true from rfl,if_true,show c7 (⟨[2,5],rfl⟩:Ar 2 Int).l 0=some 2from rfl,qA];rw[v 2 A (_,0) (.inl rfl) rfl,<-w,d24];generalize E:d9 (m+1) (c09 a)=B;unfold c09;simp only[show i64 (0+1)=1from rfl,show decide ((1:Int)<2)=true from rfl,if_true,show c7 (⟨[2,5],rfl⟩:Ar 2 Int).l 1=some 5from rfl,qA];rw[v 5 B (_,1) (.inr rfl) rfl,<-E,d24];unfold c09;simp only[show i64 (1+1)=2from rfl,show decide ((2:Int)<2)=false from rfl,qM,if_false,z]
 rw[g,d24];unfold c0b;simp only[show e6l a3j 0=none from rfl,optC];unfold joinC b5d;simp only[Int.add_zero,e9 (show-9223372036854775808<=(n:Int)by omega) (show(n:Int)<=9223372036854775807by omega)];exact M _ rfl
def j1t(h:Dg n l)(j:l.length<=9){s:O UInt8}{d:Int}(p:j8o s d):b69 ⟨(l++s).toArray⟩=some (⟨(n:Int),1⟩,d,true):=by
 obtain⟨m,c,rfl⟩:∃m c,l=m++[c]:=by
  rcases eq_nil_or_concat l with i|⟨m,c,i⟩;.exact absurd i h.ne
  .exact⟨m,c,by simpa using i⟩
 have q:=i5q (h.dig c (by simp));have a:(m++[c]).length=m.length+1:=by simp
 unfold b69;rcases p with⟨rfl,rfl⟩|⟨rfl,rfl⟩|⟨rfl,rfl⟩
 .simp only[List.append_nil];have e:((⟨(m++[c]).toArray⟩:A4).size:Int)=(m.length:Int)+1:=by rw[i9b,a];rfl
  have f:decide ((m.length:Int)+1>0)=true:=by simp
  have g:b3c ⟨(m++[c]).toArray⟩ (i64 ((m.length:Int)+1-1))=some (iv c):=by rw[e9 (by omega) (by omega),show(m.length:Int)+1-1=(m.length:Int)by omega];exact i5p (by simp)
  have k:(iv c==100)=false:=by simp;omega
  have o:(iv c==109)=false:=by simp;omega
  simp only[e,f,if_true,g,qA,k,o,qM,if_false];exact i7a h j 2
 .have e:((⟨(m++[c]++[100]).toArray⟩:A4).size:Int)=(m.length:Int)+2:=by rw[i9b];simp
  have f:decide ((m.length:Int)+2>0)=true:=by simp;omega
  have e9:i64 ((m.length:Int)+2-1)=((m++[c]).length:Int):=by rw[e9 (by omega) (by omega),a];omega
  have g:b3c ⟨(m++[c]++[100]).toArray⟩ ((m++[c]).length:Int)=some 100:=i5p (c:=100) (by simp);simp only[e,f,if_true,e9,g,qA,BEq.rfl,i9q];exact i7a h j 3
 .have e:((⟨(m++[c]++[109]).toArray⟩:A4).size:Int)=(m.length:Int)+2:=by rw[i9b];simp
  have f:decide ((m.length:Int)+2>0)=true:=by simp;omega
  have e9:i64 ((m.length:Int)+2-1)=((m++[c]).length:Int):=by rw[e9 (by omega) (by omega),a];omega
  have g:b3c ⟨(m++[c]++[109]).toArray⟩ ((m++[c]).length:Int)=some 109:=i5p (c:=109) (by simp);simp only[e,f,if_true,e9,g,qA,BEq.rfl,i9q,show((109:Int)==100)=false from rfl,qM,if_false];exact i7a h j 4
end
def j1v{n:Nat}(c:n<=100000){d:Int}(q:2<=d)(r:d<=4):∃s,a4y ⟨(n:Int),1⟩ d=some (s,true):=by
 have k:=j3o 20 n (Nat.lt_of_le_of_lt c (by decide));have l:=i6e 20 n 5 (Nat.lt_of_le_of_lt c (by decide));unfold a4y;have o:decide ((n:Int)<0)=false:=by simp
 have i:decide ((n:Int)>1000000000000000)=false:=by simp;omega
 have p:strconv_Itoa (n:Int)=some ⟨(g4v 20 n).toArray⟩:=by unfold strconv_Itoa;rw[if_pos (by omega)];simp
 simp only[show decide ((1:Int)<1)=false from rfl,show decide ((1:Int)>10000)=false from rfl,qM,if_false,qA,o,i,quo1 (show 0<=(n:Int)by omega) (show(n:Int)<=9223372036854775807by omega),k1v (show 0<=(n:Int)by omega),p];obtain⟨m,h⟩:=i7x;rw[h,d24];unfold b3h;simp only[show decide ((0:Int)>0)=false from rfl,qM,if_false];have b:∀s,j8o s d->joinC a2u (d,(⟨(n:Int),1⟩:fQ),⟨(g4v 20 n++s).toArray⟩)=some (⟨(g4v 20 n++s).toArray⟩,true):=by intro s g;unfold joinC a2u;simp only[j1t k (by omega) g,qA,qU,qM,if_false,BEq.rfl,Bool.and_true,bne_self_eq_false]
 have a:∀s:O UInt8,s.length<=1->a7f ⟨(g4v 20 n).toArray⟩ ⟨s.toArray⟩=some ⟨(g4v 20 n++s).toArray⟩:=λs g=>i9w (by omega);have j:d=2\/d=3\/d=4:=by omega
 rcases j with rfl|rfl|rfl;.have:=b [] (.inl ⟨rfl,rfl⟩);rw[List.append_nil]at this;exact⟨_,this⟩
 .have e:=a [100] (by simp);have f:=b [100] (.inr (.inl ⟨rfl,rfl⟩));refine⟨⟨(g4v 20 n++[100]).toArray⟩,?_⟩;show(a7f ⟨(g4v 20 n).toArray⟩ ⟨[100].toArray⟩).bind _=_;rw[e,qA];exact f
 .have e:=a [109] (by simp);have f:=b [109] (.inr (.inr ⟨rfl,rfl⟩));refine⟨⟨(g4v 20 n++[109]).toArray⟩,?_⟩;show(a7f ⟨(g4v 20 n).toArray⟩ ⟨[109].toArray⟩).bind _=_;rw[e,qA];exact f
def i3z{σ β:Type}{f:(σ->A3 β)->σ->A3 β}(b:Nat->σ)(N:Nat){x:A3 β}(a:∀i,i<N->∀r,f r (b i)=r (b (i+1)))(c:∀r,f r (b N)=x){k:Nat}(d:N<k):d9 k f (b 0)=x:=by
 have h:∀m i k,i+m=N->m<k->d9 k f (b i)=x:=by
  intro m
  induction m with|zero=>
    intro i k g d;obtain⟨k,rfl⟩:∃m,k=m+1:=⟨k-1,by omega⟩;obtain rfl:i=N:=by omega
    rw[d24];exact c _|succ m e=>intro i k g d;obtain⟨k,rfl⟩:∃m,k=m+1:=⟨k-1,by omega⟩;rw[d24,a i (by omega)];exact e (i+1) k (by omega) (by omega)
 exact h N 0 k (by omega) d
def i4a{a:Type}{l:O a}{i:Nat}(h:i<l.length):c7 l (i:Int)=some l[i]:=j38 (by omega) (by simp[h])
def i4v{i:Nat}(h:i<=1000000):i64 ((i:Int)+1)=((i+1:Nat):Int):=by rw[e9 (by omega) (by omega)];omega
def i6p{i n:Nat}(h:i<n):decide ((i:Int)<(n:Int))=true:=by simp;omega
def i4y(n:Nat):decide ((n:Int)<(n:Int))=false:=by simp
def AE.dep:AE->Nat|.bin _ a b=>max (max 0 a.dep) b.dep+1|.ite a b c=>max (max (max 0 a.dep) b.dep) c.dep+1|_=>1
def AE.sz:AE->Nat|.bin _ a b=>1+a.sz+b.sz|.ite a b c=>1+a.sz+b.sz+c.sz|_=>1
def i5s(a:AE):1<=a.dep:=by cases a<;>simp[AE.dep]
def AE.args:AE->O AE|.bin _ a b=>[a,b]|.ite a b c=>[a,b,c]|_=>[]
def AE.ind{P:AE->Prop}(h:∀a:AE,(∀b∈a.args,P b)->P a):∀a,P a:=by intro a;induction a with|lit v d=>exact h _ λb e=>by cases e|nm s=>exact h _ λb e=>by cases e|best k=>exact h _ λb e=>by cases e|bin l a b i g=>exact h _ λx f=>by simp[AE.args]at f;rcases f with rfl|rfl<;>assumption|ite a b c i g j=>exact h _ λx f=>by simp[AE.args]at f;rcases f with rfl|rfl|rfl<;>assumption
def i7y(a:AE):a.e.Args=a.args.map AE.e:=by cases a<;>rfl
def i5z(a:AE):a.args.length<=3:=by cases a<;>simp[AE.args]
def j6y(a:AE):a.dep=a.args.foldl (λm b=>max m b.dep) 0+1:=by cases a<;>rfl
def j4s(a:AE):a.sz=a.args.foldl (λm b=>m+b.sz) 1:=by cases a<;>rfl
def i55{a b:AE}(h:b∈a.args):b.dep<a.dep:=by cases a with|bin c x y=>simp[AE.args]at h;show b.dep<max (max 0 x.dep) y.dep+1;rcases h with rfl|rfl<;>omega|ite x y z=>simp[AE.args]at h;show b.dep<max (max (max 0 x.dep) y.dep) z.dep+1;rcases h with rfl|rfl|rfl<;>omega|_=>cases h
def j6m{a b:AE}(h:b∈a.args):b.sz<a.sz:=by cases a with|bin c x y=>simp[AE.args]at h;show b.sz<1+x.sz+y.sz;rcases h with rfl|rfl<;>omega|ite x y z=>simp[AE.args]at h;show b.sz<1+x.sz+y.sz+z.sz;rcases h with rfl|rfl|rfl<;>omega|_=>cases h
def j1y(R:Ring_pensionref5_Depth)(L:O AE)(j:∀a∈L,R.f_pensionref5_Depth a.e=some (a.dep:Int))(e:Expr)(c:e.Args=L.map AE.e)(p:L.length<=3)(o:∀a∈L,a.dep<=1000):a7r R e=some ((L.foldl (λm a=>max m a.dep) 0+1:Nat):Int):=by
 unfold a7r;have n:∀(L:O AE)(m:Nat),m<=1000->(∀a∈L,a.dep<=1000)->L.foldl (λm a=>max m a.dep) m<=1000:=by intro L;induction L with|nil=>intro m h _;exact h|cons a L l=>intro m h f;exact l (max m a.dep) (by have:=f a (by simp);omega) λx g=>f x (by simp[g])
 refine i3z (λi=>(e,(((L.take i).foldl (λm a=>max m a.dep) 0:Nat):Int),(i:Int))) L.length ?_ ?_ (by have:=i4b;omega)
 .intro i d r;unfold b5n;have b:e.Args.length=L.length:=by rw[c];simp
  have k:c7 e.Args (i:Int)=some (L[i].e):=by rw[i4a (by omega)];simp[c]
  simp only[b,i6p d,if_true,k,qA,j _ (qV d),i4v (show i<=1000000by omega)];rw[List.take_succ_eq_append_getElem d,foldl_append];simp only[List.foldl_cons,foldl_nil];congr 3;omega
 .intro r;unfold b5n;have b:e.Args.length=L.length:=by rw[c];simp
  simp only[b,i4y,qM,if_false,List.take_length];have:=n L 0 (by omega) o;rw[i4v (by omega)]
def j4p:∀(a:AE),a.dep<=1000->∀m,a.dep<=m->(s5 m).f_pensionref5_Depth a.e=some (a.dep:Int):=by refine AE.ind λa d f m e=>?_;obtain⟨m,rfl⟩:∃k,m=k+1:=⟨m-1,by have:=i5s a;omega⟩;rw[j6y a];exact j1y _ a.args (λb c=>d b c (by have:=i55 c;omega) m (by have:=i55 c;omega)) a.e (i7y a) (i5z a) λb c=>by have:=i55 c;omega
def i8n:∀(L:O AE)(m:Nat),m<=L.foldl (λm b=>m+b.sz) m:=by intro L;induction L with|nil=>intro m;exact Nat.le_refl _|cons a L c=>intro m;have:=c (m+a.sz);simp only[List.foldl_cons];omega
def j3h(R:Ring_pensionref5_Size)(L:O AE)(g:∀a∈L,R.f_pensionref5_Size a.e=some (a.sz:Int))(e:Expr)(f:e.Args=L.map AE.e)(o:L.length<=3)(l:L.foldl (λm b=>m+b.sz) 1<=1000):a94 R e=some ((L.foldl (λm a=>m+a.sz) 1:Nat):Int):=by
 unfold a94;refine i3z (λi=>(e,(((L.take i).foldl (λm a=>m+a.sz) 1:Nat):Int),(i:Int))) L.length ?_ ?_ (by have:=i4b;omega)
 .intro i d r;unfold b6r;have c:e.Args.length=L.length:=by rw[f];simp
  have k:c7 e.Args (i:Int)=some (L[i].e):=by rw[i4a (by omega)];simp[f]
  simp only[c,i6p d,if_true,k,qA,g _ (qV d),i4v (show i<=1000000by omega)];have j:(L.take (i+1)).foldl (λm a=>m+a.sz) 1=(L.take i).foldl (λm a=>m+a.sz) 1+L[i].sz:=by rw[List.take_succ_eq_append_getElem d,foldl_append];rfl
  have h:(L.take (i+1)).foldl (λm a=>m+a.sz) 1<=1000:=by
   have n:L.foldl (λm b=>m+b.sz) 1=(L.drop (i+1)).foldl (λm b=>m+b.sz) ((L.take (i+1)).foldl (λm b=>m+b.sz) 1):=by rw[<-foldl_append,List.take_append_drop]
   have:=i8n (L.drop (i+1)) ((L.take (i+1)).foldl (λm b=>m+b.sz) 1);omega
  rw[j]at h⊢;rw[e9 (by omega) (by omega)];congr 3
 .intro r;unfold b6r;have c:e.Args.length=L.length:=by rw[f];simp
  simp only[c,i4y,qM,if_false,List.take_length]
def j7w:∀(a:AE),a.sz<=1000->∀m,a.dep<=m->(u7 m).f_pensionref5_Size a.e=some (a.sz:Int):=by refine AE.ind λa e d m f=>?_;obtain⟨m,rfl⟩:∃k,m=k+1:=⟨m-1,by have:=i5s a;omega⟩;rw[j4s a]at d⊢;exact j3h _ a.args (λb c=>e b c (by have:=j6m c;rw[j4s a]at this;omega) m (by have:=i55 c;omega)) a.e (i7y a) (i5z a) d
def j0r(R:Ring_syntax_Depth)(L:O AE)(j:∀a∈L,R.f_syntax_Depth a.e=some (a.dep:Int))(e:Expr)(c:e.Args=L.map AE.e)(p:L.length<=3)(o:∀a∈L,a.dep<=1000):b86 R e=some ((L.foldl (λm a=>max m a.dep) 0+1:Nat):Int):=by
 unfold b86;have n:∀(L:O AE)(m:Nat),m<=1000->(∀a∈L,a.dep<=1000)->L.foldl (λm a=>max m a.dep) m<=1000:=by intro L;induction L with|nil=>intro m h _;exact h|cons a L l=>intro m h f;exact l (max m a.dep) (by have:=f a (by simp);omega) λx g=>f x (by simp[g])
 refine i3z (λi=>((((L.take i).foldl (λm a=>max m a.dep) 0:Nat):Int),(i:Int))) L.length ?_ ?_ (by have:=i4b;omega)
 .intro i d r;unfold b6x;have b:e.Args.length=L.length:=by rw[c];simp
  have k:c7 e.Args (i:Int)=some (L[i].e):=by rw[i4a (by omega)];simp[c]
  simp only[b,i6p d,if_true,k,qA,j _ (qV d),i4v (show i<=1000000by omega)];rw[List.take_succ_eq_append_getElem d,foldl_append];simp only[List.foldl_cons,foldl_nil];congr 2;omega
 .intro r;unfold b6x;have b:e.Args.length=L.length:=by rw[c];simp
  simp only[b,i4y,qM,if_false,List.take_length];have:=n L 0 (by omega) o;rw[i4v (by omega)]
def j2u:∀(a:AE),a.dep<=1000->∀m,a.dep<=m->(a0r m).f_syntax_Depth a.e=some (a.dep:Int):=by refine AE.ind λa d f m e=>?_;obtain⟨m,rfl⟩:∃k,m=k+1:=⟨m-1,by have:=i5s a;omega⟩;rw[j6y a];exact j0r _ a.args (λb c=>d b c (by have:=i55 c;omega) m (by have:=i55 c;omega)) a.e (i7y a) (i5z a) λb c=>by have:=i55 c;omega
def j24(R:Ring_syntax_Size)(L:O AE)(g:∀a∈L,R.f_syntax_Size a.e=some (a.sz:Int))(e:Expr)(f:e.Args=L.map AE.e)(o:L.length<=3)(l:L.foldl (λm b=>m+b.sz) 1<=1000):b9x R e=some ((L.foldl (λm a=>m+a.sz) 1:Nat):Int):=by
 unfold b9x;refine i3z (λi=>((((L.take i).foldl (λm a=>m+a.sz) 1:Nat):Int),(i:Int))) L.length ?_ ?_ (by have:=i4b;omega)
 .intro i d r;unfold b8b;have c:e.Args.length=L.length:=by rw[f];simp
  have k:c7 e.Args (i:Int)=some (L[i].e):=by rw[i4a (by omega)];simp[f]
  simp only[c,i6p d,if_true,k,qA,g _ (qV d),i4v (show i<=1000000by omega)];have j:(L.take (i+1)).foldl (λm a=>m+a.sz) 1=(L.take i).foldl (λm a=>m+a.sz) 1+L[i].sz:=by rw[List.take_succ_eq_append_getElem d,foldl_append];rfl
  have h:(L.take (i+1)).foldl (λm a=>m+a.sz) 1<=1000:=by
   have n:L.foldl (λm b=>m+b.sz) 1=(L.drop (i+1)).foldl (λm b=>m+b.sz) ((L.take (i+1)).foldl (λm b=>m+b.sz) 1):=by rw[<-foldl_append,List.take_append_drop]
   have:=i8n (L.drop (i+1)) ((L.take (i+1)).foldl (λm b=>m+b.sz) 1);omega
  rw[j]at h⊢;rw[e9 (by omega) (by omega)];congr 2
 .intro r;unfold b8b;have c:e.Args.length=L.length:=by rw[f];simp
  simp only[c,i4y,qM,if_false,List.take_length]
def j42:∀(a:AE),a.sz<=1000->∀m,a.dep<=m->(a1j m).f_syntax_Size a.e=some (a.sz:Int):=by refine AE.ind λa e d m f=>?_;obtain⟨m,rfl⟩:∃k,m=k+1:=⟨m-1,by have:=i5s a;omega⟩;rw[j4s a]at d⊢;exact j24 _ a.args (λb c=>e b c (by have:=j6m c;rw[j4s a]at this;omega) m (by have:=i55 c;omega)) a.e (i7y a) (i5z a) d
def AE.leafOK:AE->Prop|.lit v d=>(∃s,a1g v d=some (s,true))/\∃s,a4y v d=some (s,true)|.nm s=>a2e s=some true/\b0e s=some true|.best k=>1<=k/\k<=45|.bin a _ _=>7<=a/\a<=20|.ite _ _ _=>True
inductive AE.ok:AE->Prop|mk{a:AE}:a.leafOK->(∀b∈a.args,b.ok)->a.ok
def AE.ok.leaf{a:AE}(h:a.ok):a.leafOK:=by cases h;assumption
def AE.ok.arg{a b:AE}(h:a.ok)(c:b∈a.args):b.ok:=by cases h;rename_i e d;exact d b c
def j0b(R:Ring_pensionref5_formed)(L:O AE)(g:∀a∈L,R.f_pensionref5_formed a.e=some true)(e:Expr)(c:e.Args=L.map AE.e)(h:L.length<=3):d9 FU (b4j R true) (e,0)=some true:=by
 refine i3z (λi=>(e,(i:Int))) L.length ?_ ?_ (by have:=i4b;omega)
 .intro i d r;unfold b4j;have b:e.Args.length=L.length:=by rw[c];simp
  have f:c7 e.Args (i:Int)=some (L[i].e):=by rw[i4a (by omega)];simp[c]
  simp only[b,i6p d,if_true,f,qA,g _ (qV d),i4v (show i<=1000000by omega),qU,qM,if_false]
 .intro r;unfold b4j;have b:e.Args.length=L.length:=by rw[c];simp
  simp only[b,i4y,qM,if_false]
def j2f{op:Int}(g:7<=op)(h:op<=20):a8e op=some 2:=by
 unfold a8e;have a:decide (op>=1)=true:=by simp;omega
 have c:decide (op<=3)=false:=by simp;omega
 have b:decide (op>=4)=true:=by simp;omega
 have e:decide (op<=6)=false:=by simp;omega
 have d:decide (op>=7)=true:=by simp;omega
 have f:decide (op<=20)=true:=by simp;omega
 simp only[a,c,b,e,d,f,if_true,qA,qM,if_false]
def j37{op:Int}(i:7<=op)(j:op<=20):b84 op=some 2:=by
 unfold b84;have a:(op==1)=false:=by simp;omega
 have e:(op==2)=false:=by simp;omega
 have d:(op==3)=false:=by simp;omega
 have g:(op==4)=false:=by simp;omega
 have f:(op==5)=false:=by simp;omega
 have h:(op==6)=false:=by simp;omega
 have c:decide (op>=7)=true:=by simp;omega
 have b:decide (op<=20)=true:=by simp;omega
 simp only[a,e,d,g,f,h,c,b,if_true,qA,qM,if_false]
def k1a{c x:Bool}:∃b,(if c=true then some x else some false)=some b:=by cases c<;>exact⟨_,rfl⟩
def j3e:∀(a:AE),a.ok->∀m,a.dep<=m->(p7 m).f_pensionref5_formed a.e=some true:=by
 refine AE.ind λa p g m A=>?_;obtain⟨m,rfl⟩:∃k,m=k+1:=⟨m-1,by have:=i5s a;omega⟩;have r:∀b∈a.args,(p7 m).f_pensionref5_formed b.e=some true:=λb i=>p b i (g.arg i) m (by have:=i55 i;omega);have e:=g.leaf
 show a6s (p7 m) a.e=some true;have f:=j0b (p7 m) a.args r a.e (i7y a) (i5z a);cases a with|lit v d=>show a6s (p7 m) ⟨1,v,d,a3j,[]⟩=some true;unfold a6s;obtain⟨⟨s,q⟩,_⟩:=e;obtain⟨j,t⟩:=k1a (c:=(v.Num==0)&&((v.Den==0)&&true)) (x:=d==0);simp only[show a8e 1=some 0from by kernel_rfl,qA,qS,q,BEq.rfl,if_true,show(((0:Nat):Int)!=0)=false from rfl,qM,if_false];rw[t,qA];cases j<;>rfl|nm s=>show a6s (p7 m) ⟨2,⟨0,0⟩,0,s,[]⟩=some true;unfold a6s;simp only[show a8e 2=some 0from by kernel_rfl,qA,qS,BEq.rfl,Bool.and_true,if_true,e.1,show((2:Int)==1)=false from rfl,qM,if_false];rfl|best k=>
   show a6s (p7 m) ⟨3,⟨k,1⟩,0,a3j,[]⟩=some true;unfold a6s;have w:decide (k>=1)=true:=by simp;exact e.1
   have o:decide (k<=45)=true:=by simp;exact e.2
   simp only[show(((0:Nat):Int)!=0)=false from rfl,show a8e 3=some 0from by kernel_rfl,qA,qS,BEq.rfl,Bool.and_true,if_true,show((3:Int)==1)=false from rfl,show((3:Int)==2)=false from rfl,show((1:Int)==0)=false from rfl,Bool.and_false,Bool.false_and,qM,if_false,w,o]|bin h x y=>
   show a6s (p7 m) ⟨h,⟨0,0⟩,0,a3j,[x.e,y.e]⟩=some true;unfold a6s;have u:(h==1)=false:=by have:=e.1;simp;omega
   have o2:(h==2)=false:=by have:=e.1;simp;omega
   have l:(h==3)=false:=by have:=e.1;simp;omega
   simp only[j2f e.1 e.2,qA,qR,qS,BEq.rfl,Bool.and_true,if_true,u,o2,l,qM,if_false];exact f|ite x y z=>show a6s (p7 m) ⟨21,⟨0,0⟩,0,a3j,[x.e,y.e,z.e]⟩=some true;unfold a6s;simp only[show a8e 21=some 3from by kernel_rfl,qA,qR,qS,BEq.rfl,Bool.and_true,if_true,show((21:Int)==1)=false from rfl,show((21:Int)==2)=false from rfl,show((21:Int)==3)=false from rfl,qM,if_false];exact f
def j0u(n:Nat)(h:n<=1000):∃m,FU=m+n:=⟨FU-n,by
 have:1000<=FU:=by unfold FU;decide
 omega⟩
section
variable {r:rQ} {t:Tk} {ts:O Tk}
def i4t(h:RdrA r (t::ts))(a:Int)(k:Nat){op l:Int}{s:A4}(b:0<=op)(f:op<=18)(c:b05 op=some l)(d:a96 op=some s)(e:i45 s=true):d9 (k+1) (a9a a r) op=bif(l==a)&&isT t s then some op else d9 k (a9a a r) (op+1):=by rw[d24];unfold a9a;rw[if_pos (by simpa using f),c,qA];cases g:(l==a)with|false=>simp only[Bool.false_and,cond_false,qM,if_false,qA];rw[a42 b (by omega)]|true=>simp only[if_true,d,qA,j2a h e,Bool.true_and];cases isT t s with|true=>rfl|false=>simp only[qM,if_false,cond_false];rw[a42 b (by omega)]
def j36{a:Type}{b:Bool}{x y:a}:(bif b then some x else some y)=some (bif b then x else y):=by cases b<;>rfl
def i7n(h:RdrA r (t::ts))(a:Int):a3a r a=some (j92 a t k0v):=by
 unfold a3a;obtain⟨m,b⟩:=j0u 13 (by decide);rw[b];rw[show m+13=(m+12)+1from rfl,i4t h a (m+12) (op:=7) (l:=5) (s:=g5d) (by decide) (by decide) (by kernel_rfl) (by kernel_rfl) (by kernel_rfl)];rw[show m+12=(m+11)+1from rfl,show(7:Int)+1=8from rfl,i4t h a (m+11) (op:=8) (l:=5) (s:=e00) (by decide) (by decide) (by kernel_rfl) (by kernel_rfl) (by kernel_rfl)];rw[show m+11=(m+10)+1from rfl,show(8:Int)+1=9from rfl,i4t h a (m+10) (op:=9) (l:=6) (s:=g62) (by decide) (by decide) (by kernel_rfl) (by kernel_rfl) (by kernel_rfl)];rw[show m+10=(m+9)+1from rfl,show(9:Int)+1=10from rfl,i4t h a (m+9) (op:=10) (l:=6) (s:=e8f) (by decide) (by decide) (by kernel_rfl) (by kernel_rfl) (by kernel_rfl)];rw[show m+9=(m+8)+1from rfl,show(10:Int)+1=11from rfl,i4t h a (m+8) (op:=11) (l:=4) (s:=g4g) (by decide) (by decide) (by kernel_rfl) (by kernel_rfl) (by kernel_rfl)];rw[show m+8=(m+7)+1from rfl,show(11:Int)+1=12from rfl,i4t h a (m+7) (op:=12) (l:=4) (s:=d28) (by decide) (by decide) (by kernel_rfl) (by kernel_rfl) (by kernel_rfl)];rw[show m+7=(m+6)+1from rfl,show(12:Int)+1=13from rfl,i4t h a (m+6) (op:=13) (l:=4) (s:=e7j) (by decide) (by decide) (by kernel_rfl) (by kernel_rfl) (by kernel_rfl)];rw[show m+6=(m+5)+1from rfl,show(13:Int)+1=14from rfl,i4t h a (m+5) (op:=14) (l:=4) (s:=d1k) (by decide) (by decide) (by kernel_rfl) (by kernel_rfl) (by kernel_rfl)];rw[show m+5=(m+4)+1from rfl,show(14:Int)+1=15from rfl,i4t h a (m+4) (op:=15) (l:=4) (s:=g5n) (by decide) (by decide) (by kernel_rfl) (by kernel_rfl) (by kernel_rfl)];rw[show m+4=(m+3)+1from rfl,show(15:Int)+1=16from rfl,i4t h a (m+3) (op:=16) (l:=4) (s:=d30) (by decide) (by decide) (by kernel_rfl) (by kernel_rfl) (by kernel_rfl)];rw[show m+3=(m+2)+1from rfl,show(16:Int)+1=17from rfl,i4t h a (m+2) (op:=17) (l:=2) (s:=c9m) (by decide) (by decide) (by kernel_rfl) (by kernel_rfl) (by kernel_rfl)];rw[show m+2=(m+1)+1from rfl,show(17:Int)+1=18from rfl,i4t h a (m+1) (op:=18) (l:=1) (s:=d8p) (by decide) (by decide) (by kernel_rfl) (by kernel_rfl) (by kernel_rfl)];have e:d9 (m+1) (a9a a r) (18+1)=some 0:=by rw[d24];unfold a9a;rw[if_neg (by simp)]
 rw[e];unfold k0v;simp only[j92];simp only[j36]
def i7f{s:A4}{us:O Tk}(h:RdrA r ts)(c:i45 s=true)(a:eat s ts=some us):b9 r s=some (adv r)/\RdrA (adv r) us:=by cases ts with|nil=>cases a|cons t ts=>simp only[eat]at a;cases b:isT t s with|false=>rw[b]at a;cases a|true=>rw[b]at a;obtain rfl:=qH a;exact⟨j0h h c b,h.cons.choose_spec.2.2.2.1⟩
end
abbrev rgE(m:Nat):=c8 m
def Snd(k:Nat)(f:Md)(r:rQ)(out:AE×O Tk):Prop:=∃b,RdrA b out.2/\match f with|.E a=>∀m,k<=m->(rgE m).f_pensionref5_reader_expr r a=some (out.1.e,b)|.F=>∀m,k<=m->(rgE m).f_pensionref5_reader_factor r=some (out.1.e,b)|.C g=>∀m,k<=m->(rgE m).f_pensionref5_reader_call r g=some (out.1.e,b)|.L a e=>∀m j d c,k<=m->k<=j->d9 j (b0l (rgE m) a) (r,d,c,e.e)=some (out.1.e,b)
def k1t:Md->Nat|.E l=>l|.L l _=>l|.F=>0|.C _=>0
def j0d{s:A4}(h:j67 s=true):a2e s=some true:=by
 unfold j67 at h;split at h;.assumption
 .cases h
def j4i{k:Nat}(h:k<=1000):k<=FU:=by obtain⟨m,a⟩:=j0u k h;omega
def j41:∀(k:Nat),k<=1000->∀(T:Md)(ts:O Tk)(out:AE×O Tk)(r:rQ),pX k T ts=some out->k1t T<=7->RdrA r ts->Snd k T r out:=by intro k;induction k with|zero=>intro _ T ts out r h;cases T<;>cases ts<;>simp[pX]at h|succ k A=>intro hkk T ts out r h hl u;have A:=A (by omega);cases ts with|nil=>cases T<;>simp[pX]at h|cons t ts=>
     have q:=u.bad;have g:∀{m:Nat},k+1<=m->∃m',m=m'+1/\k<=m':=λ{m}h=>⟨m-1,by omega,by omega⟩;have H:∀f:Nat,f<=6->f≠0->f≠3->((pX k (.E (f+1)) (t::ts)).bind λa=>pX k (.L f a.1) a.2)=some out->Snd (k+1) (.E f) r out:=by
      intro f h6 h0 h3 h;obtain⟨a,ha,h⟩:=qP.1 h;obtain⟨B,p,l⟩:=A _ _ _ r ha (by show f+1<=7;omega) u;obtain⟨r2,J,I⟩:=A _ _ _ B h (by show f<=7;omega) p;refine⟨r2,J,λm z=>?_⟩;obtain⟨m,rfl,i⟩:=g z;show a3b (rgE m) r f=_;unfold a3b;have n0:((f:Int)==0)=false:=by simpa using h0
      have n3:((f:Int)==3)=false:=by simp;omega
      have n7:((f:Int)==7)=false:=by simp;omega
      have l:=l m i;have D:i64 ((f:Int)+1)=((f+1:Nat):Int):=by rw[a42 (by omega) (by omega)];omega
      simp only[q,n0,n3,n7,qM,if_false,D,l,qA];exact I m FU _ _ i (j4i (by omega))
     cases T with
     |E f=>match f,hl with
       |0,_=>simp only[pX]at h;cases D:isT t d0k with|false=>rw[D,cond_false]at h;obtain⟨B,p,l⟩:=A _ _ _ r h (by decide) u;refine⟨B,p,λm z=>?_⟩;obtain⟨m,rfl,i⟩:=g z;show a3b (rgE m) r 0=_;unfold a3b;have l:(rgE m).f_pensionref5_reader_expr r 1=_:=l m i;simp only[q,qM,if_false,i5a u (show i45 d0k=true by kernel_rfl),D,qA,Bool.not_false,if_true,l,BEq.rfl]|true=>rw[D,cond_true]at h;have hr':=u.cons.choose_spec.2.2.2.1;obtain⟨a,ha,h⟩:=qP.1 h;obtain⟨u1,Z,h⟩:=qP.1 h;obtain⟨b,M,h⟩:=qP.1 h;obtain⟨u2,hu2,h⟩:=qP.1 h;obtain⟨c,hc,h⟩:=qP.1 h;obtain rfl:=qH h;obtain⟨B,p,l⟩:=A _ _ _ _ ha (by decide) hr';obtain⟨w1,G⟩:=i7f p (show i45 d3p=true by kernel_rfl) Z;obtain⟨r2,J,I⟩:=A _ _ _ _ M (by decide) G;obtain⟨w2,X⟩:=i7f J (show i45 c53=true by kernel_rfl) hu2;obtain⟨r3,hr3,e3⟩:=A _ _ _ _ hc (by decide) X;refine⟨r3,hr3,λm z=>?_⟩;obtain⟨m,rfl,i⟩:=g z;show a3b (rgE m) r 0=_;unfold a3b;have l:(rgE m).f_pensionref5_reader_expr (adv r) 0=_:=l m i;have I:(rgE m).f_pensionref5_reader_expr _ 0=_:=I m i;have e3:(rgE m).f_pensionref5_reader_expr _ 0=_:=e3 m i;simp only[q,qM,if_false,i5a u (show i45 d0k=true by kernel_rfl),D,qA,qU,if_true,l,w1,I,w2,e3,BEq.rfl];rfl
       |1,_=>exact H 1 (by decide) (by decide) (by decide) h|2,_=>exact H 2 (by decide) (by decide) (by decide) h|3,_=>simp only[pX]at h;cases D:isT t c92 with|true=>rw[D]at h;cases h|false=>rw[D,cond_false]at h;obtain⟨B,p,l⟩:=A _ _ _ r h (by decide) u;refine⟨B,p,λm z=>?_⟩;obtain⟨m,rfl,i⟩:=g z;show a3b (rgE m) r 3=_;unfold a3b;have l:(rgE m).f_pensionref5_reader_expr r 4=_:=l m i;simp only[q,qM,if_false,i5a u (show i45 c92=true by kernel_rfl),D,qA,if_true,l,BEq.rfl,show((3:Int)==0)=false from rfl]
       |4,_=>exact H 4 (by decide) (by decide) (by decide) h|5,_=>exact H 5 (by decide) (by decide) (by decide) h|6,_=>exact H 6 (by decide) (by decide) (by decide) h|7,_=>simp only[pX]at h;obtain⟨B,p,l⟩:=A _ _ _ r h (by decide) u;refine⟨B,p,λm z=>?_⟩;obtain⟨m,rfl,i⟩:=g z;show a3b (rgE m) r 7=_;unfold a3b;have l:(rgE m).f_pensionref5_reader_factor r=_:=l m i;simp only[q,qM,if_false,qA,if_true,l,BEq.rfl,show((7:Int)==0)=false from rfl,show((7:Int)==3)=false from rfl]
     |L f e=>
       have hl:f<=7:=hl;have D:i64 ((f:Int)+1)=((f+1:Nat):Int):=by rw[a42 (by omega) (by omega)];omega
       have o:=u.cons.choose_spec.2.2.2;have Q:(⟨r.l,i64 (r.at_+1),r.end_,r.bad⟩:rQ)=adv r:=by rw[o.2];rfl
       have K:(⟨r.l,i64 (r.at_+1),r.end_,false⟩:rQ)=adv r:=by rw[o.2];unfold adv;rw[q]
       simp only[pX]at h;cases M:(j92 f t k0v==0)with|true=>have M:=eq_of_beq M;rw[M]at h;obtain rfl:=qH h;refine⟨r,u,λm j jl je z hj=>?_⟩;obtain⟨j,rfl,hj2⟩:=g hj;rw[d24];unfold b0l;simp only[q,Bool.not_false,if_true,i7n u,qA,M,BEq.rfl]|false=>
         split at h;.rename_i h0;rw[h0]at M;cases M
         .rename_i op h0;obtain⟨a,ha,h⟩:=qP.1 h;have h67:f<=6:=by
           refine Classical.byContradiction λhc=>h0 ?_;have:f=7:=by omega
           subst this;rfl
          obtain⟨B,p,l⟩:=A _ _ _ (adv r) ha (by show f+1<=7;omega) o.1
          cases h4:Nat.beq f 4with|true=>
            rw[h4,cond_true]at h;obtain rfl:=qH h;refine⟨B,p,λm j jl je z hj=>?_⟩;obtain⟨j,rfl,hj2⟩:=g hj;have l:=l m (by omega);rw[d24];generalize hLP:d9 j (b0l (rgE m) (f:Int))=LP;unfold b0l;have U:((f:Int)==4)=true:=by have:=qC h4;subst this;rfl
            simp only[q,Bool.not_false,if_true,i7n u,qA,M,qM,if_false,K,D,l,U];rfl|false=>
            rw[h4,cond_false]at h;obtain⟨r2,J,I⟩:=A _ _ _ _ h hl p;refine⟨r2,J,λm j jl je z hj=>?_⟩;obtain⟨j,rfl,hj2⟩:=g hj;have l:=l m (by omega);rw[d24];generalize hLP:d9 j (b0l (rgE m) (f:Int))=LP;unfold b0l;have U:((f:Int)==4)=false:=by have:=Nat.ne_of_beq_eq_false h4;simp;omega
            simp only[q,Bool.not_false,if_true,i7n u,qA,M,qM,if_false,K,D,l,U];rw[<-hLP];exact I m j _ _ (by omega) hj2
     |F=>
       have o:=u.cons.choose_spec.2.2.2;have Q:(⟨r.l,i64 (r.at_+1),r.end_,r.bad⟩:rQ)=adv r:=by rw[o.2];rfl
       have K:(⟨r.l,i64 (r.at_+1),r.end_,false⟩:rQ)=adv r:=by rw[o.2];unfold adv;rw[q]
       cases t with|s x=>simp[pX]at h|d x=>simp[pX]at h|n v d=>simp only[pX]at h;obtain rfl:=qH h;refine⟨adv r,o.1,λm z=>?_⟩;obtain⟨m,rfl,i⟩:=g z;show a2a (rgE m) r=_;unfold a2a;obtain⟨y,hy,hk,_⟩:=u.cons;simp only[i5c u,kdT,qA,BEq.rfl,if_true,hy,hk.2.1,Q];rfl|w x=>simp only[pX]at h;have P:((kdT (.w x):Int)==2)=false:=rfl;cases W:isT (.w x) e00 with|true=>rw[W]at h;cases h|false=>rw[W,cond_false]at h;cases i:isT (.w x) e02 with|true=>rw[i]at h;cases h|false=>rw[i,cond_false]at h;have t1:=i5a u (show i45 e00=true by kernel_rfl);have t2:=i5a u (show i45 e02=true by kernel_rfl);have t3:=i5a u (show i45 c51=true by kernel_rfl);rw[W]at t1;rw[i]at t2;cases R:isT (.w x) c51 with
         |true=>
           rw[R,cond_true]at h;rw[R]at t3;obtain⟨u1,Z,h⟩:=qP.1 h;split at h;.rename_i v r2;cases hv:(decide (1<=v)&&decide (v<=45))with|false=>rw[hv]at h;cases h|true=>rw[hv,cond_true]at h;obtain⟨u3,hu3,h⟩:=qP.1 h;obtain rfl:=qH h;simp at hv;obtain⟨w1,G⟩:=i7f o.1 (show i45 e02=true by kernel_rfl) Z;have w2:=i6g G hv.1 hv.2;obtain⟨w3,V⟩:=i7f G.cons.choose_spec.2.2.2.1 (show i45 d38=true by kernel_rfl) hu3;refine⟨_,V,λm z=>?_⟩;obtain⟨m,rfl,i⟩:=g z;show a2a (rgE m) r=_;unfold a2a;simp only[i5c u,P,qA,qM,if_false,if_true,t1,t2,t3,w1,w2,w3];rfl
           .cases h|false=>rw[R,cond_false]at h;rw[R]at t3;have i1:=j2a u (show i45 c1a=true by kernel_rfl);have i2:=j2a u (show i45 c8l=true by kernel_rfl);have i3:=j2a u (show i45 c98=true by kernel_rfl);cases Y:isT (.w x) c1a with|true=>rw[Y]at h;cases h|false=>rw[Y,cond_false]at h;rw[Y]at i1;cases N:isT (.w x) c8l with|true=>rw[N,cond_true]at h;rw[N]at i2;obtain⟨B,p,l⟩:=A _ _ _ _ h (by decide) u;refine⟨B,p,λm z=>?_⟩;obtain⟨m,rfl,i⟩:=g z;show a2a (rgE m) r=_;unfold a2a;have l:(rgE m).f_pensionref5_reader_call r 19=_:=l m i;simp only[i5c u,P,qA,qM,if_false,if_true,t1,t2,t3,i1,i2,l]|false=>rw[N,cond_false]at h;rw[N]at i2;cases S:isT (.w x) c98 with|true=>rw[S,cond_true]at h;rw[S]at i3;obtain⟨B,p,l⟩:=A _ _ _ _ h (by decide) u;refine⟨B,p,λm z=>?_⟩;obtain⟨m,rfl,i⟩:=g z;show a2a (rgE m) r=_;unfold a2a;have l:(rgE m).f_pensionref5_reader_call r 20=_:=l m i;simp only[i5c u,P,qA,qM,if_false,if_true,t1,t2,t3,i1,i2,i3,l]|false=>rw[S,cond_false]at h;rw[S]at i3;cases hn:j67 x with|false=>rw[hn]at h;cases h|true=>rw[hn,cond_true]at h;obtain rfl:=qH h;have n1:=j0i u (j0d hn);refine⟨_,o.1,λm z=>?_⟩;obtain⟨m,rfl,i⟩:=g z;show a2a (rgE m) r=_;unfold a2a;simp only[i5c u,P,qA,qM,if_false,if_true,t1,t2,t3,i1,i2,i3,n1];rfl
     |C op=>
       have o:=u.cons.choose_spec.2.2.2;have Q:(⟨r.l,i64 (r.at_+1),r.end_,r.bad⟩:rQ)=adv r:=by rw[o.2];rfl
       simp only[pX]at h;split at h;.rename_i hop;obtain⟨u1,h1,h⟩:=qP.1 h;obtain⟨a,h2,h⟩:=qP.1 h;obtain⟨r2,h3,h⟩:=qP.1 h;obtain⟨b,h4,h⟩:=qP.1 h;obtain⟨u2,h5,h⟩:=qP.1 h;obtain rfl:=qH h;obtain⟨w1,G⟩:=i7f o.1 (show i45 e02=true by kernel_rfl) h1;obtain⟨q1,hq1,l⟩:=A _ _ _ _ h2 (by decide) G;obtain⟨w2,X⟩:=i7f hq1 (show i45 g2w=true by kernel_rfl) h3;obtain⟨q2,hq2,I⟩:=A _ _ _ _ h4 (by decide) X;obtain⟨w3,V⟩:=i7f hq2 (show i45 d38=true by kernel_rfl) h5;refine⟨_,V,λm z=>?_⟩;obtain⟨m,rfl,i⟩:=g z;show a3d (rgE m) r op=_;unfold a3d;have l:(rgE m).f_pensionref5_reader_expr _ 0=_:=l m i;have I:(rgE m).f_pensionref5_reader_expr _ 0=_:=I m i;simp only[Q,w1,qA,l,hop,BEq.rfl,if_true,w2,I,w3];rfl
       .cases h
def i5x{k:Nat}(b:k<=1000){ts:O Tk}{out:AE×O Tk}{r:rQ}(h:pX k (.E 0) ts=some out)(c:RdrA r ts):∃a,RdrA a out.2/\a0u r 0=some (out.1.e,a):=by obtain⟨a,f,d⟩:=j41 k b _ _ _ r h (by decide) c;exact⟨a,f,d FU (j4i b)⟩
def ofW(x:A4)(a:Int):A3 Int:=(a8l x).bind λk=>(a52 x).bind λb=>(a8f x).bind λm=>c7 [k,b,m] (i64 (a-1))
def j3j{r:rQ}{ts:O Tk}{x:A4}{a n:Int}(h:RdrA r (.w x::ts))(c:ofW x a=some n)(hn:0<n):a0m r a=some (n,adv r):=by obtain⟨y,j,d,g,_,o⟩:=h.cons;have f:y.Text=x:=d.2;unfold ofW at c;obtain⟨k,l,c⟩:=qP.1 c;obtain⟨b,i,c⟩:=qP.1 c;obtain⟨m,e,c⟩:=qP.1 c;unfold a0m;rw[i5c h,qA];simp only[kdT,j,qA,f,l,i,e,c,o,decide_eq_true hn,gt_iff_lt,BEq.rfl,if_true];rfl
inductive Cl where|credit(k l:Int)|index(y:Int)(f:fQ)|lett(x:ByteArray)(a:AE)|grant(b:Int)(i p:AE)|reduce(b:Int)(a:AE)
abbrev Acc:=O Credit×O Index×O Let×O Grant×O Reduce
def Cl.app:Cl->Acc->Acc|.credit k l,A=>(A.1++[⟨k,l⟩],A.2)|.index y f,A=>(A.1,A.2.1++[⟨y,f⟩],A.2.2)|.lett x a,A=>(A.1,A.2.1,A.2.2.1++[⟨x,a.e⟩],A.2.2.2)|.grant b i p,A=>(A.1,A.2.1,A.2.2.1,A.2.2.2.1++[⟨b,i.e,p.e⟩],A.2.2.2.2)|.reduce b a,A=>(A.1,A.2.1,A.2.2.1,A.2.2.2.1,A.2.2.2.2++[⟨b,a.e⟩])
def Acc.len(A:Acc):Nat:=A.1.length+A.2.1.length+A.2.2.1.length+A.2.2.2.1.length+A.2.2.2.2.length
inductive ClR:List Tk->Cl->List Tk->Prop|credit0{x:ByteArray}{n:Int}{ts:List Tk}:ofW x 1=some n->0<n->ClR (.w b91::.w x::.s c3s::ts) (.credit n 0) ts|credit{x:ByteArray}{n v:Int}{ts:List Tk}:ofW x 1=some n->0<n->1<=v->v<=73049->ClR (.w b91::.w x::.w c1c::.n ⟨v,1⟩ 2::.s c3s::ts) (.credit n v) ts|index{y:Int}{f:fQ}{ts:List Tk}:1900<=y->y<=2099->0<f.Num->f.Den≠0->ClR (.w c1q::.n ⟨y,1⟩ 2::.n f 2::.s c3s::ts) (.index y f) ts|lett{x:ByteArray}{a:AE}{us ts:List Tk}:j67 x=true->pX 60 (.E 0) us=some (a,.s c3s::ts)->ClR (.w d07::.w x::.s e7j::us) (.lett x a) ts|grant{x:ByteArray}{n:Int}{a b:AE}{us vs ts:List Tk}:ofW x 2=some n->0<n->pX 60 (.E 0) us=some (a,.w c60::vs)->pX 60 (.E 0) vs=some (b,.s c3s::ts)->ClR (.w c10::.w x::.w d0k::us) (.grant n a b) ts|reduce{x:ByteArray}{n:Int}{a:AE}{us ts:List Tk}:ofW x 2=some n->0<n->pX 60 (.E 0) us=some (a,.s c3s::ts)->ClR (.w b94::.w x::.w d69::us) (.reduce n a) ts
def i5f:i45 b91=true:=by kernel_rfl
def i70:i45 c1q=true:=by kernel_rfl
def j30:i45 d07=true:=by kernel_rfl
def j0y:i45 c10=true:=by kernel_rfl
def j3i:i45 b94=true:=by kernel_rfl
def j1a:i45 c1c=true:=by kernel_rfl
def i68:i45 c3s=true:=by kernel_rfl
def k14:i45 e7j=true:=by kernel_rfl
def k23:i45 d0k=true:=by kernel_rfl
def j91:i45 c60=true:=by kernel_rfl
def k2a:i45 d69=true:=by kernel_rfl
def i73:i45 d0a=true:=by kernel_rfl
def j18(x:A4):isT (.w x) x=true:=by show(x.toList==x.toList)=true;exact BEq.rfl
def i7e(x:A4):isT (.s x) x=true:=by show(x.toList==x.toList)=true;exact BEq.rfl
def i4e{r:rQ}{t:Tk}{ts:O Tk}(h:RdrA r (t::ts)):RdrA (adv r) ts:=h.cons.choose_spec.2.2.2.1
section
variable {r:rQ} {t:Tk} {ts us:O Tk} {s:A4}
def i7d(h:RdrA r (.w s::ts))(a:i45 s=true):d7 r s=some (true,adv r):=by rw[i5a h a,j18];rfl
def i5g(h:RdrA r (t::ts))(a:i45 s=true)(hn:isT t s=false):d7 r s=some (false,r):=by rw[i5a h a,hn];rfl
def i7l(h:RdrA r (.w s::ts))(a:i45 s=true):b9 r s=some (adv r):=j0h h a (j18 s)
def i65(h:RdrA r (.s s::ts))(a:i45 s=true):b9 r s=some (adv r):=j0h h a (i7e s)
def i5u{a:Type}{k:Nat}{l:O a}{x:a}(h:l.length<=1000)(b:k<=1000):a4n k l [x]=some (l++[x]):=by refine p6 ?_;have:(l.length+[x].length)*k<=1001*1000:=Nat.mul_le_mul (by simp;omega) b;omega
end
def j35{ts o:O Tk}{c:Cl}(h:ClR ts c o){r:rQ}(a:RdrA r ts)(v:Version)(A:Acc)(H:A.len<=1000):
  ∃I,RdrA I o/\a39 r v A.1 A.2.1 A.2.2.1 A.2.2.2.1 A.2.2.2.2=some (I,⟨v.From,v.Rounding,[],[],[],[],[]⟩,c.app A):=by obtain⟨C,E,D,G,F⟩:=A;have H:C.length+E.length+D.length+G.length+F.length<=1000:=H;unfold a39;cases h with|credit0 j i=>have d:=i4e a;have b:=i4e d;have g:=i4e b;refine⟨_,g,?_⟩;simp only[i7d a i5f,qA,if_true,j3j d j i,i5g b j1a (show isT (.s c3s) c1c=false by kernel_rfl),qM,if_false,joinC,a1v,i5u (show C.length<=1000by omega) (show 16<=1000by decide),i65 b i68];rfl|credit j i n t=>have d:=i4e a;have b:=i4e d;have g:=i4e b;have k:=i4e g;have x:=i4e k;refine⟨_,x,?_⟩;simp only[i7d a i5f,qA,if_true,j3j d j i,i7d b j1a,i6g g n t,joinC,a1v,i5u (show C.length<=1000by omega) (show 16<=1000by decide),i65 k i68];rfl|@index y f ts j i n t=>
   have d:=i4e a;have b:=i4e d;have g:=i4e b;have k:=i4e g;refine⟨_,k,?_⟩;obtain⟨z,L,J,_,_,M⟩:=b.cons;have u:(⟨(adv (adv r)).l,i64 ((adv (adv r)).at_+1),(adv (adv r)).end_,(adv (adv r)).bad⟩:rQ)=adv (adv (adv r)):=by rw[M];rfl
   have B:(f.Den==0)=false:=by simpa using t
   simp only[i5g a i5f (show isT (.w c1q) b91=false by kernel_rfl),i7d a i70,qA,qM,if_true,if_false,i6g d j i,i5c b,kdT,BEq.rfl,L,J.2.1,decide_eq_true n,gt_iff_lt,u,joinC,a0a,B,a1t,i5u (show E.length<=1000by omega) (show 24<=1000by decide),i65 g i68];rfl|lett j i=>have d:=i4e a;have b:=i4e d;have g:=i4e b;obtain⟨q,m,e⟩:=i5x (by decide) i g;have k:=i4e m;refine⟨_,k,?_⟩;simp only[i5g a i5f (show isT (.w d07) b91=false by kernel_rfl),i5g a i70 (show isT (.w d07) c1q=false by kernel_rfl),i7d a j30,qA,qM,if_true,if_false,j0i d (j0d j),i65 b k14,e,i5u (show D.length<=1000by omega) (show 88<=1000by decide),i65 m i68];rfl|grant j i n t=>have d:=i4e a;have b:=i4e d;have g:=i4e b;obtain⟨q,m,e⟩:=i5x (by decide) n g;have k:=i4e m;obtain⟨N,p,K⟩:=i5x (by decide) t k;have x:=i4e p;refine⟨_,x,?_⟩;simp only[i5g a i5f (show isT (.w c10) b91=false by kernel_rfl),i5g a i70 (show isT (.w c10) c1q=false by kernel_rfl),i5g a j30 (show isT (.w c10) d07=false by kernel_rfl),i7d a j0y,qA,qM,if_true,if_false,j3j d j i,i7l b k23,e,i7l m j91,K,i5u (show G.length<=1000by omega) (show 152<=1000by decide),i65 p i68];rfl|reduce j i n=>have d:=i4e a;have b:=i4e d;have g:=i4e b;obtain⟨q,m,e⟩:=i5x (by decide) n g;have k:=i4e m;refine⟨_,k,?_⟩;simp only[i5g a i5f (show isT (.w b94) b91=false by kernel_rfl),i5g a i70 (show isT (.w b94) c1q=false by kernel_rfl),i5g a j30 (show isT (.w b94) d07=false by kernel_rfl),i5g a j0y (show isT (.w b94) c10=false by kernel_rfl),i7d a j3i,qA,qM,if_true,if_false,j3j d j i,i7l b k2a,e,i5u (show F.length<=1000by omega) (show 80<=1000by decide),i65 m i68];rfl
inductive ClsR:List Tk->List Cl->List Tk->Prop|nil{ts:List Tk}:ClsR (.s d0a::ts) [] ts|cons{ts us vs:List Tk}{c:Cl}{cs:List Cl}:ClR ts c us->ClsR us cs vs->ClsR ts (c::cs) vs
def ClR.head{ts us:O Tk}{c:Cl}(h:ClR ts c us):∃t a,ts=t::a/\isT t d0a=false:=by cases h<;>exact⟨_,_,rfl,by kernel_rfl⟩
def Cl.app_len(c:Cl)(A:Acc):(c.app A).len=A.len+1:=by cases c<;>simp only[Cl.app,Acc.len,qL,qR,qS]<;>omega
def j1w{ts b:O Tk}{cs:O Cl}(h:ClsR ts cs b):∀(r:rQ),RdrA r ts->∀(A:Acc)(v:Version),A.len+cs.length<=1000->∃u,RdrA u b/\∀(k:Nat)n e j l g o,cs.length<k->d9 k a8i (r,n,e,j,l,g,o,A.1,A.2.1,A.2.2.1,A.2.2.2.1,A.2.2.2.2,v)=some (⟨v.From,v.Rounding,(cs.foldl (λA c=>c.app A) A).1,(cs.foldl (λA c=>c.app A) A).2.1,(cs.foldl (λA c=>c.app A) A).2.2.1,(cs.foldl (λA c=>c.app A) A).2.2.2.1,(cs.foldl (λA c=>c.app A) A).2.2.2.2⟩,u):=by induction h with|nil=>intro r a A v _;refine⟨_,i4e a,λk n e j l g o i=>?_⟩;obtain⟨k,rfl⟩:∃m,k=m+1:=⟨k-1,by omega⟩;rw[d24];unfold a8i;simp only[a.bad,Bool.not_false,if_true,i5a a i73,i7e,qA,qU,qM,if_false];rfl|cons s F x=>rename_i C I G c cs;intro r a A v q;have q:A.len+(cs.length+1)<=1000:=q;obtain⟨D,f,y⟩:=j35 s a (⟨v.From,v.Rounding,[],[],[],[],[]⟩:Version) A (by omega);obtain⟨E,p,z⟩:=x D f (c.app A) ⟨v.From,v.Rounding,[],[],[],[],[]⟩ (by rw[Cl.app_len];omega);refine⟨E,p,λk n e j l g o i=>?_⟩;have i:cs.length+1<k:=i;obtain⟨k,rfl⟩:∃m,k=m+1:=⟨k-1,by omega⟩;obtain⟨t,w,rfl,B⟩:=s.head;rw[d24];generalize d:d9 k a8i=H;unfold a8i;simp only[a.bad,Bool.not_false,if_true,i5g a i73 B,qA,y];rw[<-d];exact z k _ _ _ _ _ _ (by omega)
def j5z:Acc:=([],[],[],[],[])
def Cls.acc(cs:O Cl):Acc:=cs.foldl (λA c=>c.app A) j5z
def j9i(a m u:Int)(cs:O Cl):Version:=⟨a,⟨m,u⟩,(Cls.acc cs).1,(Cls.acc cs).2.1,(Cls.acc cs).2.2.1,(Cls.acc cs).2.2.2.1,(Cls.acc cs).2.2.2.2⟩
def j80:i45 c4c=true:=by kernel_rfl
def j3d:i45 e8b=true:=by kernel_rfl
def j4m:i45 c14=true:=by kernel_rfl
def j26:i45 b76=true:=by kernel_rfl
def j0o:i45 b4x=true:=by kernel_rfl
structure VerR(ts:List Tk)(v:Version)(ts':List Tk):Prop where ex:∃(day m u:Int)(x:ByteArray)(cs:List Cl)(us:List Tk),ts=.w c4c::.d day::.s e8b::.w c14::.w x::.n ⟨u,1⟩ 2::.s c3s::us/\ofW x 3=some m/\0<m/\1<=u/\u<=100000/\ClsR us cs ts'/\cs.length<=900/\v=j9i day m u cs
def j1l{ts a:O Tk}{v:Version}(h:VerR ts v a){r:rQ}(n:RdrA r ts):∃b,RdrA b a/\a2o r=some (v,b):=by
 obtain⟨f,m,u,x,B,H,rfl,s,C,t,w,E,G,rfl⟩:=h.ex;have g:=i4e n;have j:=i4e g;have q:=i4e j;have i:=i4e q;have p:=i4e i;have o:=i4e p;have A:=i4e o;obtain⟨b,d,e⟩:=j1w E _ A j5z ⟨f,⟨m,u⟩,[],[],[],[],[]⟩ (by show 0+0+0+0+0+B.length<=1000;omega);refine⟨b,d,?_⟩;obtain⟨z,F,y,_,_,D⟩:=g.cons;have c:(⟨(adv r).l,i64 ((adv r).at_+1),(adv r).end_,(adv r).bad⟩:rQ)=adv (adv r):=by rw[D];rfl
 unfold a2o;simp only[i7l n j80,qA,i5c g,kdT,BEq.rfl,if_true,F,y.2.1,c,joinC,a1l,i65 j j3d,i7l q j4m,j3j i s C,i6g p t w,i65 o i68];exact e FU _ _ _ _ _ _ (by have:=j4i (k:=1000) (by decide);omega)
inductive VersR:List Tk->List Version->Prop|nil:VersR [.s d0a] []|cons{ts us:List Tk}{v:Version}{vs:List Version}:VerR ts v us->VersR us vs->VersR ts (v::vs)
def VerR.head{ts us:O Tk}{v:Version}(h:VerR ts v us):∃t a,ts=t::a/\isT t d0a=false:=by obtain⟨b,m,u,x,d,c,rfl,_⟩:=h.ex;exact⟨_,_,rfl,by kernel_rfl⟩
def j21{g:A4}{cur:Int}:∀(vs:O Version)(ts:O Tk)(a:O Version)(r:rQ),VersR ts vs->RdrA r ts->a.length+vs.length<=1000->b00 ⟨g,cur,a++vs⟩=some true->∀(k:Nat)f e b c,(b=true->vs≠[])->c.Name=g->c.Currency=cur->vs.length<k->d9 k b5m (f,e,r,a,c,b)=some (⟨g,cur,a++vs⟩,0,0):=by
 intro vs;induction vs with|nil=>
   intro ts a r h d _ u k f e b c q p s z;cases h;obtain⟨k,rfl⟩:∃m,k=m+1:=⟨k-1,by omega⟩;have q:b=false:=by cases b with|false=>rfl|true=>exact absurd rfl (q rfl)
   subst q;rw[d24];unfold b5m;have A:=i4e d;have i:¬(adv r).at_<((adv r).l.length:Int):=by have:=A.all;intro P;have D:=A.nn;cases F:(adv r).l.drop (adv r).at_.toNat with|nil=>have:=congrArg List.length F;simp at this;omega|cons x y=>rw[F]at this;exact this
   simp only[List.append_nil]at u⊢;simp only[d.bad,Bool.not_false,if_true,i5a d i73,i7e,qA,qU,qM,if_false,joinC,a6p,A.bad,decide_eq_false i,p,s,u]|cons v vs J=>
   intro ts a r h d C u k f e b c q p s z;have C:a.length+(vs.length+1)<=1000:=C;have z:vs.length+1<k:=z;cases h;rename_i N n w;obtain⟨k,rfl⟩:∃m,k=m+1:=⟨k-1,by omega⟩;obtain⟨G,B,E⟩:=j1l n d;obtain⟨t,L,rfl,H⟩:=n.head;have j:=J N (a++[v]) G w B (by simp;omega) (by rw[qQ];exact u) k;rw[d24];generalize M:d9 k b5m=I at j⊢;have o:∀f e c,c.Name=g->c.Currency=cur->I (f,e,G,a++[v],c,false)=some (⟨g,cur,a++v::vs⟩,0,0):=λf e c K D=>by have:=j f e false c (λh=>by cases h) K D (by omega);rw[qQ]at this;exact this
   unfold b5m;cases b with|true=>simp only[d.bad,Bool.not_false,if_true,joinC,a6u,E,qA,i5u (show a.length<=1000by omega) (show 144<=1000by decide)];exact o _ _ _ p s|false=>simp only[d.bad,Bool.not_false,if_true,i5g d i73 H,qM,if_false,joinC,a6u,E,qA,i5u (show a.length<=1000by omega) (show 144<=1000by decide)];exact o _ _ _ p s
def j46{s b:A4}{cur:Int}{a:O Token}{us:O Tk}{vs:O Version}(c:b25 s=some (a,0,0))(t:a.length<=8000)(d:y7 TkR a (.w b76::.w b::.w b4x::.n ⟨cur,1⟩ 2::.s e8b::us))(hn:j67 b=true)(q:1<=cur)(p:cur<=999)(f:VersR us vs)(e:vs≠[])(l:vs.length<=900)(o:b00 ⟨b,cur,vs⟩=some true):a9z s=some (⟨b,cur,vs⟩,0,0):=by unfold a9z b02;rw[c,qA];have j:RdrA ⟨a,0,(s.size:Int),false⟩ (.w b76::.w b::.w b4x::.n ⟨cur,1⟩ 2::.s e8b::us):=⟨rfl,Int.le_refl _,t,d⟩;have h:=i4e j;have m:=i4e h;have i:=i4e m;have g:=i4e i;have r:=i4e g;simp only[show((0:Int)!=0)=false from rfl,qM,if_false,qA,optC,i7l j j26,j0i h (j0d hn),i7l m j0o,i6g i q p,i65 g j3d];exact j21 vs us [] _ f r (by simp;omega) o FU _ _ true _ (λ_=>e) rfl rfl (by have:=j4i (k:=1000) (by decide);omega)
def j7h{a:AE}(h:a.leafOK):c05 a.e=some true:=by cases a with|lit v d=>show c05 ⟨1,v,d,a3j,[]⟩=some true;unfold c05;obtain⟨_,s,f⟩:=h;simp only[show b84 1=some 0from by kernel_rfl,qA,qS,f,BEq.rfl,if_true,show(((0:Nat):Int)!=0)=false from rfl,qM,if_false]|nm s=>show c05 ⟨2,⟨0,0⟩,0,s,[]⟩=some true;unfold c05;simp only[show b84 2=some 0from by kernel_rfl,qA,qS,h.2,BEq.rfl,Bool.and_true,if_true,show(((0:Nat):Int)!=0)=false from rfl,show((2:Int)==1)=false from rfl,qM,if_false]|best k=>
   show c05 ⟨3,⟨k,1⟩,0,a3j,[]⟩=some true;unfold c05;have g:decide (k>=1)=true:=by simp;exact h.1
   have e:decide (k<=45)=true:=by simp;exact h.2
   simp only[show b84 3=some 0from by kernel_rfl,qA,qS,BEq.rfl,if_true,show(((0:Nat):Int)!=0)=false from rfl,show((3:Int)==1)=false from rfl,show((3:Int)==2)=false from rfl,qM,if_false,g,e]|bin b x y=>
   show c05 ⟨b,⟨0,0⟩,0,a3j,[x.e,y.e]⟩=some true;unfold c05;have i:(b==1)=false:=by have:=h.1;simp;omega
   have c:(b==2)=false:=by have:=h.1;simp;omega
   have j:(b==3)=false:=by have:=h.1;simp;omega
   simp only[j37 h.1 h.2,qA,qR,qS,BEq.rfl,Bool.and_true,if_true,i,c,j,qM,if_false];rfl|ite x y z=>show c05 ⟨21,⟨0,0⟩,0,a3j,[x.e,y.e,z.e]⟩=some true;unfold c05;simp only[show b84 21=some 3from by kernel_rfl,qA,qR,qS,BEq.rfl,Bool.and_true,if_true,show((21:Int)==1)=false from rfl,show((21:Int)==2)=false from rfl,show((21:Int)==3)=false from rfl,qM,if_false];rfl
def j29(R:Ring_syntax_form)(L:O AE)(d:∀a∈L,R.f_syntax_form_1 a.e=some false)(f:L.length<=3):a1m R (L.map AE.e)=some (-1):=by
 unfold a1m;refine i3z (λi=>(i:Int)) L.length ?_ ?_ (by have:=i4b;omega)
 .intro i b r;unfold a6i;have c:c7 (L.map AE.e) (i:Int)=some (L[i].e):=by rw[i4a (by simpa using b)];simp
  simp only[List.length_map,i6p b,if_true,c,qA,d _ (qV b),i4v (show i<=1000000by omega),qM,if_false]
 .intro r;unfold a6i;simp only[List.length_map,i4y,qM,if_false]
def j7l:∀(a:AE),a.ok->∀m,4*a.dep<=m->(e6 m).f_syntax_form a.e=some true:=by
 refine AE.ind λa h d m i=>?_;obtain⟨m,rfl⟩:∃k,m=k+1+1+1+1:=⟨m-4,by have:=i5s a;omega⟩;have g:∀b∈a.args,(e6 (m+1)).f_syntax_form_1 b.e=some false:=λb e=>by show c0q (e6 m) b.e=some false;unfold c0q;rw[h b e (d.arg e) m (by have:=i55 e;omega)];rfl
 have c:=j29 (e6 (m+1)) a.args g (i5z a);have f:(e6 (m+1+1+1)).f_slices_ContainsFunc_of_api_Expr a.e.Args=some false:=by show a0y (e6 (m+1+1)) a.e.Args=some false;unfold a0y;show(a1m (e6 (m+1)) a.e.Args).bind _=_;rw[i7y,c];rfl
 show b60 (e6 (m+1+1+1)) a.e=some true;unfold b60;rw[j7h d.leaf,qA];simp only[if_true,f,qA,Bool.not_false]
def i8r{a:AE}(h:a.ok)(d:a.dep<=10)(e:a.sz<=60):a0g a.e=some true:=by
 unfold a0g c61 c76 c4h;have f:=i4b;rw[j4p a (by omega) FU (by omega),j7w a (by omega) FU (by omega),j3e a h FU (by omega),qA];have b:decide ((a.dep:Int)<=10)=true:=by simp;omega
 have c:decide ((a.sz:Int)<=60)=true:=by simp;omega
 simp only[b,c,if_true,qA]
def i5t{a:AE}(h:a.ok)(d:a.dep<=10)(e:a.sz<=60):a1k a.e=some true:=by
 unfold a1k d57 e0h d9s;have f:=i4b;rw[j2u a (by omega) FU (by omega),j42 a (by omega) FU (by omega),j7l a h FU (by omega),qA];have b:decide ((a.dep:Int)<=10)=true:=by simp;omega
 have c:decide ((a.sz:Int)<=60)=true:=by simp;omega
 simp only[b,c,if_true,qA]
def okD(o:A3 (Int×Bool)):A3 Int:=o.bind λx=>if x.2then some x.1else none
def j57{o:A3 (Int×Bool)}{d:Int}(h:okD o=some d):o=some (d,true):=by cases o with|none=>cases h|some x=>obtain⟨y,b⟩:=x;cases b with|false=>cases h|true=>injection h with h;subst h;rfl
def AE.inf(e:O iQ):AE->A3 Int|.lit _ d=>some d|.best _=>some 4|.nm s=>okD (b6c s e)|.bin f a b=>(a.inf e).bind λx=>(b.inf e).bind λy=>okD (b9i f [x,y])|.ite a b c=>(a.inf e).bind λx=>(b.inf e).bind λy=>(c.inf e).bind λz=>okD (b9i 21 [x,y,z])
def i8d(R:Ring_typing_infer)(c:O iQ)(e:Expr)(L:O AE)(b:O Int)(g:e.Args=L.map AE.e)(n:L.length<=3)(f:b.length=L.length){d:Int}(l:okD (b9i e.Op b)=some d)(m:∀i(h:i<L.length),R.f_typing_infer L[i].e c=some (b[i]'(by omega),0)):d9 FU (i4w R e c) (e,[],0)=some (d,0):=by
 refine i3z (λi=>(e,b.take i,(i:Int))) L.length ?_ ?_ (by have:=i4b;omega)
 .intro i j r;unfold i4w;have a:e.Args.length=L.length:=by rw[g];simp
  have k:c7 e.Args (i:Int)=some (L[i].e):=by rw[i4a (by omega)];simp[g]
  simp only[a,i6p j,if_true,k,qA,m i j,show((0:Int)!=0)=false from rfl,qM,if_false,i5u (show(b.take i).length<=1000by simp;omega) (show 8<=1000by decide),i4v (show i<=1000000by omega)];rw[List.take_succ_eq_append_getElem (by omega)]
 .intro r;unfold i4w;have a:e.Args.length=L.length:=by rw[g];simp
  simp only[a,i4y,qM,if_false];rw[show b.take L.length=b by rw[<-f,List.take_length],j57 l];rfl
def j3w(e:O iQ):∀(a:AE),a.ok->∀d,a.inf e=some d->∀m,a.dep<=m->(a0v m).f_typing_infer a.e e=some (d,0):=by refine AE.ind λa B n d c m E=>?_;obtain⟨m,rfl⟩:∃k,m=k+1:=⟨m-1,by have:=i5s a;omega⟩;have j:∀b∈a.args,∀d,b.inf e=some d->(a0v m).f_typing_infer b.e e=some (d,0):=λb q d c=>B b q (n.arg q) d c m (by have:=i55 q;omega);show b4g (a0v m) a.e e=some (d,0);have g:=n.leaf;cases a with
 |lit v D=>injection c with c;subst c;rfl|nm s=>have c:okD (b6c s e)=some d:=c;show b4g (a0v m) ⟨2,⟨0,0⟩,0,s,[]⟩ e=some (d,0);unfold b4g;simp only[show((2:Int)==1)=false from rfl,show((2:Int)==3)=false from rfl,qM,if_false,BEq.rfl,if_true,j57 c,qA,qU]|best k=>injection c with c;subst c;rfl|bin o x y=>
   obtain⟨h,p,c⟩:=qP.1 c;obtain⟨l,r,c⟩:=qP.1 c;show b4g (a0v m) ⟨o,⟨0,0⟩,0,a3j,[x.e,y.e]⟩ e=some (d,0);unfold b4g;have C:(o==1)=false:=by have:=g.1;simp;omega
   have w:(o==2)=false:=by have:=g.1;simp;omega
   have u:(o==3)=false:=by have:=g.1;simp;omega
   simp only[C,w,u,qM,if_false];refine i8d _ e _ [x,y] [h,l] rfl (by simp) rfl c λi f=>?_;have f:i<2:=f;match i,f with|0,_=>exact j x (by simp[AE.args]) h p|1,_=>exact j y (by simp[AE.args]) l r
 |ite x y z=>obtain⟨h,p,c⟩:=qP.1 c;obtain⟨l,r,c⟩:=qP.1 c;obtain⟨t,A,c⟩:=qP.1 c;show b4g (a0v m) ⟨21,⟨0,0⟩,0,a3j,[x.e,y.e,z.e]⟩ e=some (d,0);unfold b4g;simp only[show((21:Int)==1)=false from rfl,show((21:Int)==2)=false from rfl,show((21:Int)==3)=false from rfl,qM,if_false];refine i8d _ e _ [x,y,z] [h,l,t] rfl (by simp) rfl c λi f=>?_;have f:i<3:=f;match i,f with|0,_=>exact j x (by simp[AE.args]) h p|1,_=>exact j y (by simp[AE.args]) l r|2,_=>exact j z (by simp[AE.args]) t A
def j01(a:O iQ):Prop:=a.length<=1000/\∀b∈a,1<=b.Dim/\b.Dim<=4
def j06{a:O iQ}(h:j01 a):a0i a=some false:=by
 unfold a0i a19;have:d9 FU (a50 a) ((0:Nat):Int)=some (-1):=by
  refine i3z (λi=>(i:Int)) a.length ?_ ?_ (by have:=i4b;have:=h.1;omega)
  .intro i b r;unfold a50 b42;have e:=h.2 _ (qV b);have d:decide (a[i].Dim<1)=false:=by simp;omega
   have c:decide (a[i].Dim>4)=false:=by simp;omega
   have:=h.1;simp only[i6p b,if_true,i4a b,qA,d,c,qM,if_false,i4v (show i<=1000000by omega)]
  .intro r;unfold a50;simp only[i4y,qM,if_false]
 rw[show(0:Int)=((0:Nat):Int)from rfl,this];rfl
def i8s{b:O iQ}(c:j01 b){a:AE}(h:a.ok)(f:a.dep<=10)(e:a.sz<=60){d:Int}(hi:a.inf b=some d):b4y a.e b=some (d,0):=by unfold b4y;have g:=i4b;simp only[i5t h f e,qA,qU,qM,if_false,j06 c,show d5q a.e b=some (d,0)from j3w b a h d hi FU (by omega)]
def k1b{b:O iQ}(c:j01 b){a:AE}(h:a.ok)(f:a.dep<=10)(e:a.sz<=60){d:Int}(hi:a.inf b=some d):b8w a.e b d=some 0:=by unfold b8w;simp only[i8s c h f e hi,qA,show((0:Int)!=0)=false from rfl,qM,if_false,bne_self_eq_false]
def nz(o:A3 A4):Bool:=match o with|some w=>!(w.toList==a3j.toList)|none=>false
def j0j{o:A3 A4}(h:nz o=true):∃w,o=some w/\(w.toList==a3j.toList)=false:=by cases o with|none=>cases h|some w=>exact⟨w,rfl,by simpa[nz]using h⟩
def j5e:O syntax_entry:=(c1i).getD []
def j09:O syntax_entry:=(b2d).getD []
def j0t:O syntax_entry:=(c0l).getD []
def j4a:c1i=some j5e:=rfl
def i7k:b2d=some j09:=rfl
def j4c:c0l=some j0t:=rfl
structure CrOK(c:Credit):Prop where
 w5:nz (a3t c.Kind 1)=true
 wS:nz (a4u j5e c.Kind)=true
 l0:0<=c.Limit
 l1:c.Limit<=73049
structure IxOK(x:Index):Prop where
 y0:1900<=x.Year
 y1:x.Year<=2099n:1<=x.Factor.Num
 f5:∃s,a1g x.Factor 2=some (s,true)fS:∃s,a4y x.Factor 2=some (s,true)
structure ExOK(env:List iQ)(e:Expr)(d:Int):Prop where ex:∃a:AE,e=a.e/\a.ok/\a.dep<=10/\a.sz<=60/\a.inf env=some d
structure BnOK(b:Int):Prop where
 w5:nz (a3t b 2)=true
 wS:nz (a4u j09 b)=true
structure VOK(env:List iQ)(v:Version):Prop where
 f0:0<=v.From
 f1:v.From<=73048m0:1<=v.Rounding.Mode
 m1:v.Rounding.Mode<=4mS:nz (a4u j0t v.Rounding.Mode)=true
 u0:1<=v.Rounding.Unit
 u1:v.Rounding.Unit<=100000cl:v.Credits.length<=6sl:v.Series.length<=20ll:v.Lets.length<=10gl:v.Grants.length<=5rl:v.Reduces.length<=5cr:∀c∈v.Credits,CrOK c
 crp:v.Credits.Pairwise λa b=>a.Kind≠b.Kind
 ix:∀x∈v.Series,IxOK x
 ixp:v.Series.Pairwise λa b=>a.Year<b.Year
 lt:∀x∈v.Lets,a2e x.Name=some true/\b0e x.Name=some true/\a0g x.Body=some true/\a1k x.Body=some true
 ls:b9n v.Lets=some (env,0)la:∀x∈v.Lets,∃a:AE,x.Body=a.e/\a.ok/\a.dep<=10
 en:j01 env
 gr:∀g∈v.Grants,BnOK g.Benefit/\ExOK env g.If 1/\ExOK env g.Pay 4grp:v.Grants.Pairwise λa b=>a.Benefit≠b.Benefit
 rd:∀r∈v.Reduces,BnOK r.Benefit/\ExOK env r.By 2rdp:v.Reduces.Pairwise λa b=>a.Benefit≠b.Benefit
def ExOK.v5{b:O iQ}{e:Expr}{d:Int}(h:ExOK b e d):a0g e=some true:=by obtain⟨a,rfl,g,f,c,_⟩:=h.ex;exact i8r g f c
def ExOK.vS{b:O iQ}{e:Expr}{d:Int}(h:ExOK b e d):a1k e=some true:=by obtain⟨a,rfl,g,f,c,_⟩:=h.ex;exact i5t g f c
def ExOK.of{b:O iQ}(c:j01 b){e:Expr}{d:Int}(h:ExOK b e d):b8w e b d=some 0:=by obtain⟨a,rfl,i,g,j,f⟩:=h.ex;exact k1b c i g j f
section
variable {env:O iQ} {v:Version}
def j4e(h:VOK env v):a3n v=some true:=by
 have E:=i4b;have p:d9 FU a4x (v,0)=some true:=by
  refine i3z (λi=>(v,(i:Int))) v.Reduces.length ?_ ?_ (by have:=h.rl;omega);.intro i a r;have b:=h.rd _ (qV a);obtain⟨w,c,d⟩:=j0j b.1.w5;have:=h.rl;unfold a4x;simp only[i6p a,if_true,i4a a,qA,c,d,b.2.v5,qU,qM,if_false,i4v (show i<=1000000by omega)]
  .intro r;unfold a4x;simp only[i4y,qM,if_false]
 have z:d9 FU a4o (v,0)=some true:=by
  refine i3z (λi=>(v,(i:Int))) v.Grants.length ?_ ?_ (by have:=h.gl;omega);.intro i a r;have b:=h.gr _ (qV a);obtain⟨w,c,d⟩:=j0j b.1.w5;have:=h.gl;unfold a4o;simp only[i6p a,if_true,i4a a,qA,c,d,b.2.1.v5,b.2.2.v5,qU,qM,if_false,i4v (show i<=1000000by omega)]
  .intro r;unfold a4o;simp only[i4y,qM,if_false];exact p
 have k:d9 FU a56 (v,0)=some true:=by
  refine i3z (λi=>(v,(i:Int))) v.Lets.length ?_ ?_ (by have:=h.ll;omega);.intro i a r;have b:=h.lt _ (qV a);have:=h.ll;unfold a56;simp only[i6p a,if_true,i4a a,qA,b.1,b.2.2.1,qU,qM,if_false,i4v (show i<=1000000by omega)]
  .intro r;unfold a56;simp only[i4y,qM,if_false];exact z
 have g:d9 FU a4z (v,0)=some true:=by
  refine i3z (λi=>(v,(i:Int))) v.Series.length ?_ ?_ (by have:=h.sl;omega)
  .intro i a r;have b:=h.ix _ (qV a);obtain⟨s,x⟩:=b.f5;have:=h.sl;have f:decide (v.Series[i].Year<1900)=false:=by have:=b.y0;simp;omega
   have e:decide (v.Series[i].Year>2099)=false:=by have:=b.y1;simp;omega
   have n:decide (v.Series[i].Factor.Num<1)=false:=by have:=b.n;simp;omega
   unfold a4z;simp only[i6p a,if_true,i4a a,qA,x,f,e,n,qU,qM,if_false,i4v (show i<=1000000by omega)]
  .intro r;unfold a4z;simp only[i4y,qM,if_false];exact k
 have B:d9 FU a4r (v,0)=some true:=by
  refine i3z (λi=>(v,(i:Int))) v.Credits.length ?_ ?_ (by have:=h.cl;omega)
  .intro i a r;have b:=h.cr _ (qV a);obtain⟨w,c,d⟩:=j0j b.w5;have:=h.cl;have f:decide (v.Credits[i].Limit<0)=false:=by have:=b.l0;simp;omega
   have e:decide (v.Credits[i].Limit>73049)=false:=by have:=b.l1;simp;omega
   unfold a4r;simp only[i6p a,if_true,i4a a,qA,c,d,f,e,qU,qM,if_false,i4v (show i<=1000000by omega)]
  .intro r;unfold a4r;simp only[i4y,qM,if_false];exact g
 unfold a3n a6n a3c;have q:decide (v.From>=0)=true:=by have:=h.f0;simp;omega
 have y:decide (v.From<=73048)=true:=by have:=h.f1;simp;omega
 have l:decide (v.Rounding.Mode>=1)=true:=by have:=h.m0;simp;omega
 have C:decide (v.Rounding.Mode<=4)=true:=by have:=h.m1;simp;omega
 have A:decide (v.Rounding.Unit>=1)=true:=by have:=h.u0;simp;omega
 have u:decide (v.Rounding.Unit<=100000)=true:=by have:=h.u1;simp;omega
 have o:decide ((v.Credits.length:Int)>6)=false:=by have:=h.cl;simp;omega
 have D:decide ((v.Series.length:Int)>20)=false:=by have:=h.sl;simp;omega
 have j:decide ((v.Lets.length:Int)>10)=false:=by have:=h.ll;simp;omega
 have t:decide ((v.Grants.length:Int)>5)=false:=by have:=h.gl;simp;omega
 have m:decide ((v.Reduces.length:Int)>5)=false:=by have:=h.rl;simp;omega
 simp only[q,y,l,C,A,u,o,D,j,t,m,if_true,qA,qU,qM,if_false];exact B
def j40(h:VOK env v):a7q v=some true:=by
 have C:=i4b;have o:joinC b3e v=some true:=by
  unfold joinC b3e;refine i3z (λi=>(i:Int)) v.Reduces.length ?_ ?_ (by have:=h.rl;omega);.intro i a r;have b:=h.rd _ (qV a);obtain⟨w,c,d⟩:=j0j b.1.wS;have:=h.rl;unfold a8y;simp only[i6p a,if_true,i4a a,qA,i7k,c,d,b.2.vS,qU,qM,if_false,i4v (show i<=1000000by omega)]
  .intro r;unfold a8y;simp only[i4y,qM,if_false]
 have A:joinC b3b v=some true:=by
  unfold joinC b3b;refine i3z (λi=>(v,(i:Int))) v.Grants.length ?_ ?_ (by have:=h.gl;omega);.intro i a r;have b:=h.gr _ (qV a);obtain⟨w,c,d⟩:=j0j b.1.wS;have:=h.gl;unfold a8t;simp only[i6p a,if_true,i4a a,qA,i7k,c,d,b.2.1.vS,b.2.2.vS,qU,qM,if_false,i4v (show i<=1000000by omega)]
  .intro r;unfold a8t;simp only[i4y,qM,if_false];exact o
 have k:joinC b3i v=some true:=by
  unfold joinC b3i;refine i3z (λi=>(v,(i:Int))) v.Lets.length ?_ ?_ (by have:=h.ll;omega);.intro i a r;have b:=h.lt _ (qV a);have:=h.ll;unfold a8w;simp only[i6p a,if_true,i4a a,qA,b.2.1,b.2.2.2,qU,qM,if_false,i4v (show i<=1000000by omega)]
  .intro r;unfold a8w;simp only[i4y,qM,if_false];exact A
 have g:joinC b39 v=some true:=by
  unfold joinC b39;refine i3z (λi=>(v,(i:Int))) v.Series.length ?_ ?_ (by have:=h.sl;omega)
  .intro i a r;have b:=h.ix _ (qV a);obtain⟨s,t⟩:=b.fS;have:=h.sl;have f:decide (v.Series[i].Year>=1900)=true:=by have:=b.y0;simp;omega
   have e:decide (v.Series[i].Year<=2099)=true:=by have:=b.y1;simp;omega
   have m:decide (v.Series[i].Factor.Num>0)=true:=by have:=b.n;simp;omega
   unfold a8v b07 b59;simp only[i6p a,if_true,i4a a,qA,t,f,e,m,qU,qM,if_false,i4v (show i<=1000000by omega)]
  .intro r;unfold a8v;simp only[i4y,qM,if_false];exact k
 have y:d9 FU (a8u v) (v,0)=some true:=by
  refine i3z (λi=>(v,(i:Int))) v.Credits.length ?_ ?_ (by have:=h.cl;omega)
  .intro i a r;have b:=h.cr _ (qV a);obtain⟨w,c,d⟩:=j0j b.wS;have:=h.cl;have f:decide (v.Credits[i].Limit<0)=false:=by have:=b.l0;simp;omega
   have e:decide (v.Credits[i].Limit>73049)=false:=by have:=b.l1;simp;omega
   unfold a8u;simp only[i6p a,if_true,i4a a,qA,j4a,c,d,f,e,qU,qM,if_false,i4v (show i<=1000000by omega)]
  .intro r;unfold a8u;simp only[i4y,qM,if_false];exact g
 unfold a7q m7;have p:decide (v.From>=0)=true:=by have:=h.f0;simp;omega
 have u:decide (v.From<=73048)=true:=by have:=h.f1;simp;omega
 have z:decide (v.Rounding.Unit<1)=false:=by have:=h.u0;simp;omega
 have x:decide (v.Rounding.Unit>100000)=false:=by have:=h.u1;simp;omega
 have n:decide ((v.Credits.length:Int)>6)=false:=by have:=h.cl;simp;omega
 have B:decide ((v.Series.length:Int)>20)=false:=by have:=h.sl;simp;omega
 have j:decide ((v.Lets.length:Int)>10)=false:=by have:=h.ll;simp;omega
 have q:decide ((v.Grants.length:Int)>5)=false:=by have:=h.gl;simp;omega
 have l:decide ((v.Reduces.length:Int)>5)=false:=by have:=h.rl;simp;omega
 obtain⟨w,c,d⟩:=j0j h.mS;simp only[p,u,z,x,j4c,c,d,if_true,qA,qU,qM,if_false];unfold joinC a5f;simp only[n,B,j,q,l,if_true,qA,qU,qM,if_false];exact y
def i7o{l:O Credit}{c:Credit}(e:l.length<=1000)(h:∀x∈l,x.Kind≠c.Kind):a0e l c=some false:=by
 unfold a0e a13;have:d9 FU (a4i l c) ((0:Nat):Int)=some (-1):=by
  refine i3z (λi=>(i:Int)) l.length ?_ ?_ (by have:=i4b;omega)
  .intro i a r;have b:=h _ (qV a);have d:(l[i].Kind==c.Kind)=false:=by simpa using b
   unfold a4i b5a;simp only[i6p a,if_true,i4a a,qA,d,qM,if_false,i4v (show i<=1000000by omega)]
  .intro r;unfold a4i;simp only[i4y,qM,if_false]
 rw[show(0:Int)=((0:Nat):Int)from rfl,this];rfl
def i7s{l:O Grant}{c:Grant}(e:l.length<=1000)(h:∀x∈l,x.Benefit≠c.Benefit):a0h l c=some false:=by
 unfold a0h a15;have:d9 FU (a4s l c) ((0:Nat):Int)=some (-1):=by
  refine i3z (λi=>(i:Int)) l.length ?_ ?_ (by have:=i4b;omega)
  .intro i a r;have b:=h _ (qV a);have d:(l[i].Benefit==c.Benefit)=false:=by simpa using b
   unfold a4s b57;simp only[i6p a,if_true,i4a a,qA,d,qM,if_false,i4v (show i<=1000000by omega)]
  .intro r;unfold a4s;simp only[i4y,qM,if_false]
 rw[show(0:Int)=((0:Nat):Int)from rfl,this];rfl
def i7g{l:O Reduce}{c:Reduce}(e:l.length<=1000)(h:∀x∈l,x.Benefit≠c.Benefit):a0d l c=some false:=by
 unfold a0d a0x;have:d9 FU (a4k l c) ((0:Nat):Int)=some (-1):=by
  refine i3z (λi=>(i:Int)) l.length ?_ ?_ (by have:=i4b;omega)
  .intro i a r;have b:=h _ (qV a);have d:(l[i].Benefit==c.Benefit)=false:=by simpa using b
   unfold a4k b5b;simp only[i6p a,if_true,i4a a,qA,d,qM,if_false,i4v (show i<=1000000by omega)]
  .intro r;unfold a4k;simp only[i4y,qM,if_false]
 rw[show(0:Int)=((0:Nat):Int)from rfl,this];rfl
def j0n{a:Type}{l:O a}{i:Nat}(h:i<l.length):a1x l 0 (i:Int)=some (l.take i):=by rw[b26 (Int.le_refl _) (by omega) (by omega)];simp
def i74{b:Type}{R:b->b->Prop}{l:O b}(h:l.Pairwise R){i:Nat}(hi:i<l.length):∀x∈l.take i,R x l[i]:=by
 intro x c;obtain⟨j,d,rfl⟩:=List.getElem_of_mem c;have a:j<i:=by simp at d;omega
 rw[getElem_take];exact List.pairwise_iff_getElem.1 h j i (by omega) hi a
def j1d(h:VOK env v):b0q v=some 0:=by
 have s:=i4b;have n:∀a:Version×O iQ×Int,a.1=v->d9 FU (i4s a) (v,env,0)=some 0:=by
  intro a c;refine i3z (λi=>(v,env,(i:Int))) v.Reduces.length ?_ ?_ (by have:=h.rl;omega);.intro i b r;have d:=h.rd _ (qV b);have:=h.rl;unfold i4s;simp only[c,i6p b,if_true,i4a b,qA,j0n b,i7g (l:=v.Reduces.take i) (by simp;omega) (i74 h.rdp b),d.2.of h.en,show((0:Int)!=0)=false from rfl,qM,if_false,i4v (show i<=1000000by omega)]
  .intro r;unfold i4s;simp only[c,i4y,qM,if_false]
 have p:∀a:Version×O iQ×Int,a.1=v->d9 FU (i4o a) (v,env,0)=some 0:=by
  intro a c;refine i3z (λi=>(v,env,(i:Int))) v.Grants.length ?_ ?_ (by have:=h.gl;omega);.intro i b r;have d:=h.gr _ (qV b);have:=h.gl;unfold i4o;simp only[c,i6p b,if_true,i4a b,qA,j0n b,i7s (l:=v.Grants.take i) (by simp;omega) (i74 h.grp b),d.2.1.of h.en,d.2.2.of h.en,show((0:Int)!=0)=false from rfl,qM,if_false,i4v (show i<=1000000by omega)]
  .intro r;unfold i4o;simp only[c,i4y,qM,if_false];exact n _ rfl
 have g:∀a:Version×O iQ×Int,a.1=v->d9 FU (i4r a) (v,env,0)=some 0:=by
  intro a c;refine i3z (λi=>(v,env,(i:Int))) v.Series.length ?_ ?_ (by have:=h.sl;omega)
  .intro i b r;have:=h.sl;unfold i4r;simp only[c,i6p b,if_true,i4a b,qA];have e:((if decide ((i:Int)>0)then(c7 v.Series (i64 ((i:Int)-1))).bind λf=>some (decide (v.Series[i].Year<=f.Year))else some false):A3 Bool)=some false:=by cases i with|zero=>rfl|succ i=>
      have o:=List.pairwise_iff_getElem.1 h.ixp i (i+1) (by omega) b (by omega);have q:decide (((i+1:Nat):Int)>0)=true:=by simp
      have k:i64 (((i+1:Nat):Int)-1)=(i:Int):=by rw[e9 (by omega) (by omega)];omega
      have j:decide (v.Series[i+1].Year<=v.Series[i].Year)=false:=by simp;omega
      simp only[q,if_true,k,i4a (show i<v.Series.length by omega),qA,j]
   rw[e,qA];simp only[qM,if_false,i4v (show i<=1000000by omega)]
  .intro r;unfold i4r;simp only[c,i4y,qM,if_false];exact p _ rfl
 have m:d9 FU (i4p v) (v,env,0)=some 0:=by
  refine i3z (λi=>(v,env,(i:Int))) v.Credits.length ?_ ?_ (by have:=h.cl;omega);.intro i b r;have:=h.cl;unfold i4p;simp only[i6p b,if_true,i4a b,qA,j0n b,i7o (l:=v.Credits.take i) (by simp;omega) (i74 h.crp b),qM,if_false,i4v (show i<=1000000by omega)]
  .intro r;unfold i4p;simp only[i4y,qM,if_false];exact g _ rfl
 unfold b0q;simp only[h.ls,qA,show((0:Int)!=0)=false from rfl,qM,if_false];exact m
end
structure SOK(x:Statute):Prop where
 n5:a2e x.Name=some true
 nS:b0e x.Name=some true
 c0:1<=x.Currency
 c1:x.Currency<=999l0:1<=x.Versions.length
 l1:x.Versions.length<=6vs:∀v∈x.Versions,∃env,VOK env v
 vp:x.Versions.Pairwise λa b=>a.From<b.From
def j7t{x:Statute}(h:SOK x):b00 x=some true:=by
 have k:=i4b;have c:d9 FU b5o (x,0)=some true:=by
  refine i3z (λi=>(x,(i:Int))) x.Versions.length ?_ ?_ (by have:=h.l1;omega);.intro i a r;obtain⟨b,e⟩:=h.vs _ (qV a);have:=h.l1;unfold b5o;simp only[i6p a,if_true,i4a a,qA,j4e e,qU,qM,if_false,i4v (show i<=1000000by omega)]
  .intro r;unfold b5o;simp only[i4y,qM,if_false]
 unfold b00;have f:decide (x.Currency<1)=false:=by have:=h.c0;simp;omega
 have d:decide (x.Currency>999)=false:=by have:=h.c1;simp;omega
 have g:decide ((x.Versions.length:Int)<1)=false:=by have:=h.l0;simp;omega
 have j:decide ((x.Versions.length:Int)>6)=false:=by have:=h.l1;simp;omega
 simp only[h.n5,f,d,g,j,qA,qU,qM,if_false];exact c
def j3v{x:Statute}(h:SOK x):b7h x=some true:=by
 have k:=i4b;have c:d9 FU (b77 x) 0=some true:=by
  refine i3z (λi=>(i:Int)) x.Versions.length ?_ ?_ (by have:=h.l1;omega);.intro i a r;obtain⟨b,e⟩:=h.vs _ (qV a);have:=h.l1;unfold b77;simp only[i6p a,if_true,i4a a,qA,j40 e,qU,qM,if_false,i4v (show i<=1000000by omega)]
  .intro r;unfold b77;simp only[i4y,qM,if_false]
 unfold b7h;have f:decide (x.Currency<1)=false:=by have:=h.c0;simp;omega
 have d:decide (x.Currency>999)=false:=by have:=h.c1;simp;omega
 have g:decide ((x.Versions.length:Int)<1)=false:=by have:=h.l0;simp;omega
 have j:decide ((x.Versions.length:Int)>6)=false:=by have:=h.l1;simp;omega
 simp only[h.nS,f,d,g,j,qA,qU,qM,if_false];exact c
def j4h{x:Statute}(h:SOK x):b4b x=some (0,0):=by
 have l:=i4b;unfold b4b;simp only[j3v h,qA,qU,qM,if_false];refine i3z (λi=>(x,(i:Int))) x.Versions.length ?_ ?_ (by have:=h.l1;omega)
 .intro i a r;obtain⟨b,j⟩:=h.vs _ (qV a);have:=h.l1;unfold i50;simp only[i6p a,if_true,i4a a,qA];have e:((if decide ((i:Int)>0)then(c7 x.Versions (i64 ((i:Int)-1))).bind λk=>some (decide (x.Versions[i].From<=k.From))else some false):A3 Bool)=some false:=by cases i with|zero=>rfl|succ i=>
     have g:=List.pairwise_iff_getElem.1 h.vp i (i+1) (by omega) a (by omega);have f:decide (((i+1:Nat):Int)>0)=true:=by simp
     have c:i64 (((i+1:Nat):Int)-1)=(i:Int):=by rw[e9 (by omega) (by omega)];omega
     have d:decide (x.Versions[i+1].From<=x.Versions[i].From)=false:=by simp;omega
     simp only[f,if_true,c,i4a (show i<x.Versions.length by omega),qA,d]
  rw[e,qA];simp only[qM,if_false,j1d j,qA,show((0:Int)!=0)=false from rfl,i4v (show i<=1000000by omega)]
 .intro r;unfold i50;simp only[i4y,qM,if_false]
structure NumX(w:List UInt8)(v:fQ)(d:Int):Prop where
 st:∃c r,w=c::r/\h2u (iv c)=true/\h2f (iv c)=false
 rc:∀x∈w,i9x true x=true
 pt:∃x y,a6z ⟨w.toArray⟩=some (x,y,d,true)de:a2x ⟨w.toArray⟩=some (v,d,true)f5:∃s,a1g v d=some (s,true)fS:∃s,a4y v d=some (s,true)
def j8d{c:UInt8}(h:h2u (iv c)=true):i9x true c=true:=by unfold i9x;rw[h];simp
def NumX.whole{n:Nat}(hn:n<=100000){s:O UInt8}{d:Int}(f:j8o s d):NumX (g4v 20 n++s) ⟨(n:Int),1⟩ d:=by
 have e:=j3o 20 n (Nat.lt_of_le_of_lt hn (by decide));have i:=i6e 20 n 5 (Nat.lt_of_le_of_lt hn (by decide));have a:2<=d/\d<=4:=by rcases f with⟨_,rfl⟩|⟨_,rfl⟩|⟨_,rfl⟩<;>decide
 refine⟨?_,?_,⟨_,_,i7j e (by omega) f⟩,j2d e (by omega) f,j1z (by omega) (by omega) a.1 a.2,j1v (by omega) a.1 a.2⟩;.cases g:g4v 20 n with|nil=>exact absurd g e.ne|cons c r=>have h:=e.dig c (by rw[g];simp);have j:=i5q h;exact⟨c,r++s,rfl,h,by unfold h2f;simp;omega⟩
 .intro x b;rcases qK.1 b with b|b;.exact j8d (e.dig x b)
  .rcases f with⟨rfl,_⟩|⟨rfl,_⟩|⟨rfl,_⟩;.cases b
   .rw[qF]at b;subst b;rfl
   .rw[qF]at b;subst b;rfl
def k1d(o:A3 (A4×Bool)):Bool:=match o with|some (_,b)=>b|none=>false
def j3k{o:A3 (A4×Bool)}(h:k1d o=true):∃s,o=some (s,true):=by cases o with|none=>cases h|some x=>obtain⟨s,b⟩:=x;cases b with|false=>cases h|true=>exact⟨s,rfl⟩
def okP(w:O UInt8)(d:Int):Bool:=match a6z ⟨w.toArray⟩with|some (_,_,a,b)=>b&&a==d|none=>false
def k03{w:O UInt8}{d:Int}(h:okP w d=true):∃x y,a6z ⟨w.toArray⟩=some (x,y,d,true):=by
 unfold okP at h;split at h;.rename_i x y c b a;simp at h;obtain⟨rfl,rfl⟩:=h;exact⟨x,y,a⟩
 .cases h
def okV(w:O UInt8)(d:Int)(v:fQ):Bool:=match a2x ⟨w.toArray⟩with|some (u,a,b)=>b&&(a==d&&(u.Num==v.Num&&u.Den==v.Den))|none=>false
def j8u{w:O UInt8}{d:Int}{v:fQ}(h:okV w d v=true):a2x ⟨w.toArray⟩=some (v,d,true):=by
 unfold okV at h;split at h;.rename_i u f b e;simp at h;obtain⟨rfl,rfl,a,c⟩:=h;rw[e];cases u;cases v;simp at a c;subst a;subst c;rfl
 .cases h
def j7v(w:O UInt8)(v:fQ)(d:Int):Bool:=(match w with|c::_=>h2u (iv c)&&!h2f (iv c)|[]=>false)&&(w.all (i9x true)&&(okP w d&&(okV w d v&&(k1d (a1g v d)&&k1d (a4y v d)))))
def NumX.chk{w:O UInt8}{v:fQ}{d:Int}(h:j7v w v d=true):NumX w v d:=by unfold j7v at h;simp only[qB]at h;obtain⟨a,i,e,g,b,f⟩:=h;refine⟨?_,λx j=>qX.1 i x j,k03 e,j8u g,j3k b,j3k f⟩;cases w with|nil=>cases a|cons c r=>simp at a;exact⟨c,r,rfl,a.1,a.2⟩
def okA:O Lx->O UInt8->Prop|[],_=>True|l::b,a=>LxOK l.t l.w (blk l.sp++(i40 b++a))/\okA b a
def i47:∀(a b:O Lx),i40 (a++b)=i40 a++i40 b|[],b=>rfl|l::a,b=>by show l.w++(blk l.sp++i40 (a++b))=l.w++(blk l.sp++i40 a)++i40 b;rw[i47 a b];simp
def i4u:∀(a b:O Lx)(rest:O UInt8),okA a (i40 b++rest)->okA b rest->okA (a++b) rest|[],b,rest,_,h=>h|l::a,b,rest,c,d=>⟨by have:=c.1;show LxOK l.t l.w (blk l.sp++(i40 (a++b)++rest));rw[i47,qQ];exact this,i4u a b rest c.2 d⟩
def j7a:∀(a:O Lx),okA a []->okL a|[],_=>trivial|l::a,h=>⟨by have:=h.1;rw[List.append_nil]at this;exact this,j7a a h.2⟩
def bl(s:A4):O UInt8:=s.data.toList
def j0q(s:A4):Bool:=match bl s with|c::w=>h2f (iv c)&&((c::w).all (i9x false)&&decide ((c::w).length<=12))|[]=>false
def LxOK.word{s:A4}{rest:O UInt8}(h:j0q s=true)(d:i6b (i9x false) rest):LxOK (.w s) (bl s) rest:=by obtain⟨⟨l⟩⟩:=s;have a:bl ⟨⟨l⟩⟩=l:=rfl;unfold j0q at h;rw[a]at h⊢;cases l with|nil=>cases h|cons c w=>simp only[qB,decide_eq_true_eq]at h;exact LxOK.w (c:=c) (w:=w) h.1 (λx b=>qX.1 h.2.1 x b) h.2.2 d
def i8v(w:O UInt8)(a:Int):Bool:=match w with|c::r=>c==64&&(decide (r.length=10)&&(match a47 ⟨r.toArray⟩with|some (x,b)=>b&&x==a|none=>false))|[]=>false
def LxOK.date{w rest:O UInt8}{a:Int}(h:i8v w a=true):LxOK (.d a) w rest:=by cases w with|nil=>cases h|cons c r=>
   unfold i8v at h;simp only[qB,decide_eq_true_eq,beq_iff_eq]at h;obtain⟨rfl,g,e⟩:=h;split at e;.rename_i x b f;simp at e;obtain⟨rfl,rfl⟩:=e;exact LxOK.d g f
   .cases e
def k04(s:A4):Bool:=match bl s with|[c]=>j2w c|[c,a]=>(c==60&&a==61)||((c==62&&a==61)||(c==60&&a==62))|_=>false
def k24(s:A4):Bool:=match bl s with|[c]=>iv c !=60&&iv c !=62|_=>false
def nx(p:UInt8->Bool)(b:Bool)(a:O Lx):Bool:=b||(match a with|m::_=>(match m.t with|.s s=>(match bl s with|c::_=>!p c|[]=>false)|_=>false)|[]=>false)
def j87{p:UInt8->Bool}{f:Bool}{b:O Lx}{rest:O UInt8}(i:p 32=false)(h:nx p f b=true)(j:∀m∈b,∀s,m.t=.s s->m.w=bl s):i6b p (blk f++(i40 b++rest)):=by intro c r a;cases f with|true=>have a:32::(i40 b++rest)=c::r:=a;injection a with k h2;subst k;exact i|false=>have a:i40 b++rest=c::r:=a;cases b with|nil=>cases h|cons m b=>have h:(match m.t with|.s s=>(match bl s with|c::_=>!p c|[]=>false)|_=>false)=true:=h;have q:=j m (by simp);have a:m.w++(blk m.sp++i40 b)++rest=c::r:=a;cases e:m.t with
     |s s=>rw[e]at h;have h:(match bl s with|c::_=>!p c|[]=>false)=true:=h;rw[q s e]at a;cases g:bl s with|nil=>rw[g]at h;cases h|cons o t=>
         rw[g]at h a;have:o=c:=by injection a
         subst this;simpa using h
     |w s=>rw[e]at h;cases h|n v d=>rw[e]at h;cases h|d l=>rw[e]at h;cases h
def i6u:O Lx->Bool|[]=>true|l::a=>(match l.t with|.w s=>l.w==bl s&&(j0q s&&nx (i9x false) l.sp a)|.s s=>l.w==bl s&&(k04 s&&(k24 s||nx (λc=>iv c==61||iv c==62) l.sp a))|.n _ _=>nx (i9x true) l.sp a|.d b=>i8v l.w b)&&i6u a
def i9o:O Lx->Prop|[]=>True|l::b=>(match l.t with|.n v d=>NumX l.w v d|_=>True)/\i9o b
def i8a:∀(b:O Lx),i6u b=true->∀m∈b,∀s,m.t=.s s->m.w=bl s
 |[],_,m,a,_,_=>by cases a|l::b,h,m,a,s,c=>by
   unfold i6u at h;rw[qB]at h;rcases qO.1 a with rfl|a;.rw[c]at h;simp only[qB,beq_iff_eq]at h;exact h.1.1
   .exact i8a b h.2 m a s c
def i6s:∀(e:O Lx),i6u e=true->i9o e->∀rest,okA e rest|[],_,_,_=>trivial|l::e,h,q,rest=>by have g:=i8a e (by unfold i6u at h;rw[qB]at h;exact h.2);obtain⟨t,w,o⟩:=l;unfold i6u at h;rw[qB]at h;refine⟨?_,i6s e h.2 q.2 rest⟩;have i:=h.1;show LxOK t w (blk o++(i40 e++rest));cases t with
   |w s=>simp only[qB,beq_iff_eq]at i;obtain⟨rfl,a,f⟩:=i;exact LxOK.word a (j87 rfl f g)|s s=>
     simp only[qB,beq_iff_eq]at i;obtain⟨rfl,a,f⟩:=i;have b:k24 s=true\/i6b (λc=>iv c==61||iv c==62) (blk o++(i40 e++rest)):=by
      rcases Bool.or_eq_true _ _|>.mp f with f|f;.exact .inl f
      .exact .inr (j87 (rest:=rest) (p:=λc=>iv c==61||iv c==62) rfl f g)
     obtain⟨⟨l⟩⟩:=s;have A:bl ⟨⟨l⟩⟩=l:=rfl;unfold k04 at a;unfold k24 at b;rw[A]at a b⊢;match l,a,b with
     |[c],a,b=>
       refine LxOK.s1 a ?_;rcases b with b|b;.exact .inl (by simpa using b)
       .exact .inr b|[c,C],a,_=>
       refine LxOK.s2 ?_;simp only[Bool.or_eq_true,qB,beq_iff_eq]at a;rcases a with⟨rfl,rfl⟩|⟨rfl,rfl⟩|⟨rfl,rfl⟩;.exact .inl rfl
       .exact .inr (.inl rfl)
       .exact .inr (.inr rfl)
   |n v d=>have j:NumX w v d:=q.1;obtain⟨c,r,rfl,k,m⟩:=j.st;obtain⟨x,y,u⟩:=j.pt;exact LxOK.n k m j.rc (j87 rfl i g) u j.de|d z=>exact LxOK.date i
def W(s:A4):Lx:=⟨.w s,bl s,true⟩
def Wn(s:A4):Lx:=⟨.w s,bl s,false⟩
def Sg(s:A4):Lx:=⟨.s s,bl s,true⟩
def Sh(s:A4):Lx:=⟨.s s,bl s,false⟩
def N(w:O UInt8)(v:fQ)(d:Int)(a:Bool):Lx:=⟨.n v d,w,a⟩
def num(n:Nat)(s:O UInt8)(d:Int)(a:Bool):Lx:=N (g4v 20 n++s) ⟨(n:Int),1⟩ d a
def i4l:A4:=⟨#[115,112,101,110,116]⟩
def i4z:A4:=⟨#[112,97,114,116]⟩
def j9n:O UInt8:=[49,57,54,48]
def k0k:O UInt8:=[49,57,56,48]
def k0p:O UInt8:=[49,57,57,53]
def n1:O UInt8:=[49]
def n3:O UInt8:=[51]
def n12:O UInt8:=[49,50]
def n60:O UInt8:=[54,48]
def n30d:O UInt8:=[51,48,100]
def p50:O UInt8:=[48,46,53,48]
def p60:O UInt8:=[48,46,54,48]
def p70:O UInt8:=[48,46,55,48]
def p80:O UInt8:=[48,46,56,48]
def k1l:NumX j9n ⟨1960,1⟩ 2:=.chk (by kernel_rfl)
def k28:NumX k0k ⟨1980,1⟩ 2:=.chk (by kernel_rfl)
def k1n:NumX k0p ⟨1995,1⟩ 2:=.chk (by kernel_rfl)
def x1:NumX n1 ⟨1,1⟩ 2:=.chk (by kernel_rfl)
def x3:NumX n3 ⟨3,1⟩ 2:=.chk (by kernel_rfl)
def x12:NumX n12 ⟨12,1⟩ 2:=.chk (by kernel_rfl)
def x60:NumX n60 ⟨60,1⟩ 2:=.chk (by kernel_rfl)
def x30d:NumX n30d ⟨30,1⟩ 3:=.chk (by kernel_rfl)
def xp50:NumX p50 ⟨1,2⟩ 2:=.chk (by kernel_rfl)
def xp60:NumX p60 ⟨3,5⟩ 2:=.chk (by kernel_rfl)
def xp70:NumX p70 ⟨7,10⟩ 2:=.chk (by kernel_rfl)
def k0y:NumX p80 ⟨4,5⟩ 2:=.chk (by kernel_rfl)
def lC6:O Lx:=[W b91,Wn b0b,Sg c3s]
def lC7(n:Nat):O Lx:=[W b91,W b87,W c1c,num n [] 2 false,Sg c3s]
def j83(n:Nat):O Lx:=[W b91,W c97,W c1c,num n [] 2 false,Sg c3s]
def lC5:O Lx:=[W b91,Wn c04,Sg c3s]
def lI0:O Lx:=[W c1q,N j9n ⟨1960,1⟩ 2 true,N n1 ⟨1,1⟩ 2 false,Sg c3s]
def lI1(w:O UInt8)(v:fQ):O Lx:=[W c1q,N k0k ⟨1980,1⟩ 2 true,N w v 2 false,Sg c3s]
def lI2(w:O UInt8)(v:fQ):O Lx:=[W c1q,N k0p ⟨1995,1⟩ 2 true,N w v 2 false,Sg c3s]
def lL1(n:Nat):O Lx:=[W d07,W i4l,Sg e7j,W b6u,Sg e8f,num n [100] 3 false,Sg c3s]
def lL2(w:O UInt8)(v:fQ):O Lx:=[W d07,W i4z,Sg e7j,Wn c8l,Sh e02,W i4l,Sg g62,N w v 2 false,Sg g2w,N p80 ⟨4,5⟩ 2 false,Sh d38,Sg c3s]
def lG1(a i m:Nat):O Lx:=[W c10,W d9m,W d0k,W e0r,Sg d30,num a [] 2 true,W c9m,W b6u,Sg d30,num i [100] 3 true,W c60,Wn c98,Sh e02,W e39,Sg g62,Wn i4z,Sg g2w,num m [109] 4 false,Sh d38,Sg c3s]
def lG2(i:Nat)(w:O UInt8)(v:fQ):O Lx:=[W c10,W b8e,W d0k,W b6u,Sg d30,num i [100] 3 true,W c60,W e39,Sg g62,N w v 2 false,Sg c3s]
def lG3:O Lx:=[W c10,W c0u,W d0k,W c5w,Sg g5d,W c3c,Sg d30,N n30d ⟨30,1⟩ 3 true,W c60,W e39,Sg g62,W i4z,Sg g62,N p60 ⟨3,5⟩ 2 false,Sg c3s]
def lG4(i m:Nat):O Lx:=[W c10,W c66,W d0k,W b6u,Sg d30,num i [100] 3 true,W c60,num m [109] 4 true,Sg g62,Wn c6q,Sg c3s]
def lG5(i:Nat):O Lx:=[W c10,W c0r,W d0k,W b6u,Sg d30,num i [100] 3 true,W c60,Wn c51,Sh e02,N n3 ⟨3,1⟩ 2 false,Sg d38,Sg e8f,N n12 ⟨12,1⟩ 2 true,Sg g62,N p70 ⟨7,10⟩ 2 false,Sg c3s]
def lR1(w:O UInt8)(v:fQ):O Lx:=[W b94,W d9m,W d69,N w v 2 false,Sg c3s]
def lR2:O Lx:=[W b94,W b8e,W d69,W d0k,W e0r,Sg g4g,N n60 ⟨60,1⟩ 2 true,W d3p,N p50 ⟨1,2⟩ 2 true,W c53,N n1 ⟨1,1⟩ 2 false,Sg c3s]
def aL1(n:Nat):AE:=.bin 10 (.nm b6u) (.lit ⟨(n:Int),1⟩ 3)
def aL2(v:fQ):AE:=.bin 19 (.bin 9 (.nm i4l) (.lit v 2)) (.lit ⟨4,5⟩ 2)
def j8j(a i:Nat):AE:=.bin 17 (.bin 16 (.nm e0r) (.lit ⟨(a:Int),1⟩ 2)) (.bin 16 (.nm b6u) (.lit ⟨(i:Int),1⟩ 3))
def j97(m:Nat):AE:=.bin 20 (.bin 9 (.nm e39) (.nm i4z)) (.lit ⟨(m:Int),1⟩ 4)
def j1k(i:Nat):AE:=.bin 16 (.nm b6u) (.lit ⟨(i:Int),1⟩ 3)
def k0i(v:fQ):AE:=.bin 9 (.nm e39) (.lit v 2)
def j7n:AE:=.bin 16 (.bin 7 (.nm c5w) (.nm c3c)) (.lit ⟨30,1⟩ 3)
def j7q:AE:=.bin 9 (.bin 9 (.nm e39) (.nm i4z)) (.lit ⟨3,5⟩ 2)
def k0h(m:Nat):AE:=.bin 9 (.lit ⟨(m:Int),1⟩ 4) (.nm c6q)
def k0a:AE:=.bin 9 (.bin 10 (.best 3) (.lit ⟨12,1⟩ 2)) (.lit ⟨7,10⟩ 2)
def aR1(v:fQ):AE:=.lit v 2
def aR2:AE:=.ite (.bin 11 (.nm e0r) (.lit ⟨60,1⟩ 2)) (.lit ⟨1,2⟩ 2) (.lit ⟨1,1⟩ 2)
def tk(l:O Lx)(ts:O Tk):O Tk:=l.map (·.t)++ts
def rC6(ts:O Tk):ClR (tk lC6 ts) (.credit 6 0) ts:=.credit0 (x:=b0b) (by kernel_rfl) (by decide)
def rC5(ts:O Tk):ClR (tk lC5 ts) (.credit 5 0) ts:=.credit0 (x:=c04) (by kernel_rfl) (by decide)
def rC7{n:Nat}(a:1<=n)(b:n<=73049)(ts:O Tk):ClR (tk (lC7 n) ts) (.credit 7 n) ts:=.credit (x:=b87) (by kernel_rfl) (by decide) (by omega) (by omega)
def rC10{n:Nat}(a:1<=n)(b:n<=73049)(ts:O Tk):ClR (tk (j83 n) ts) (.credit 10 n) ts:=.credit (x:=c97) (by kernel_rfl) (by decide) (by omega) (by omega)
def rI0(ts:O Tk):ClR (tk lI0 ts) (.index 1960 ⟨1,1⟩) ts:=.index (by decide) (by decide) (by decide) (by decide)
def rI1{w:O UInt8}{v:fQ}(h:0<v.Num)(a:v.Den≠0)(ts:O Tk):ClR (tk (lI1 w v) ts) (.index 1980 v) ts:=.index (by decide) (by decide) h a
def rI2{w:O UInt8}{v:fQ}(h:0<v.Num)(a:v.Den≠0)(ts:O Tk):ClR (tk (lI2 w v) ts) (.index 1995 v) ts:=.index (by decide) (by decide) h a
def rL1(n:Nat)(ts:O Tk):ClR (tk (lL1 n) ts) (.lett i4l (aL1 n)) ts:=.lett (x:=i4l) (by kernel_rfl) (by kernel_rfl)
def rL2(w:O UInt8)(v:fQ)(ts:O Tk):ClR (tk (lL2 w v) ts) (.lett i4z (aL2 v)) ts:=.lett (x:=i4z) (by kernel_rfl) (by kernel_rfl)
def rG1(a i m:Nat)(ts:O Tk):ClR (tk (lG1 a i m) ts) (.grant 1 (j8j a i) (j97 m)) ts:=.grant (x:=d9m) (vs:=([Wn c98,Sh e02,W e39,Sg g62,Wn i4z,Sg g2w,num m [109] 4 false,Sh d38,Sg c3s]:O Lx).map (·.t)++ts) (by kernel_rfl) (by decide) (by kernel_rfl) (by kernel_rfl)
def rG2(i:Nat)(w:O UInt8)(v:fQ)(ts:O Tk):ClR (tk (lG2 i w v) ts) (.grant 2 (j1k i) (k0i v)) ts:=.grant (x:=b8e) (vs:=([W e39,Sg g62,N w v 2 false,Sg c3s]:O Lx).map (·.t)++ts) (by kernel_rfl) (by decide) (by kernel_rfl) (by kernel_rfl)
def rG3(ts:O Tk):ClR (tk lG3 ts) (.grant 3 j7n j7q) ts:=.grant (x:=c0u) (vs:=([W e39,Sg g62,W i4z,Sg g62,N p60 ⟨3,5⟩ 2 false,Sg c3s]:O Lx).map (·.t)++ts) (by kernel_rfl) (by decide) (by kernel_rfl) (by kernel_rfl)
def rG4(i m:Nat)(ts:O Tk):ClR (tk (lG4 i m) ts) (.grant 4 (j1k i) (k0h m)) ts:=.grant (x:=c66) (vs:=([num m [109] 4 true,Sg g62,Wn c6q,Sg c3s]:O Lx).map (·.t)++ts) (by kernel_rfl) (by decide) (by kernel_rfl) (by kernel_rfl)
def rG5(i:Nat)(ts:O Tk):ClR (tk (lG5 i) ts) (.grant 5 (j1k i) k0a) ts:=.grant (x:=c0r) (vs:=([Wn c51,Sh e02,N n3 ⟨3,1⟩ 2 false,Sg d38,Sg e8f,N n12 ⟨12,1⟩ 2 true,Sg g62,N p70 ⟨7,10⟩ 2 false,Sg c3s]:O Lx).map (·.t)++ts) (by kernel_rfl) (by decide) (by kernel_rfl) (by kernel_rfl)
def rR1(w:O UInt8)(v:fQ)(ts:O Tk):ClR (tk (lR1 w v) ts) (.reduce 1 (aR1 v)) ts:=.reduce (x:=d9m) (by kernel_rfl) (by decide) (by kernel_rfl)
def rR2(ts:O Tk):ClR (tk lR2 ts) (.reduce 2 aR2) ts:=.reduce (x:=b8e) (by kernel_rfl) (by decide) (by kernel_rfl)
def kC6:i6u lC6=true:=by kernel_rfl
def kC5:i6u lC5=true:=by kernel_rfl
def kC7(n:Nat):i6u (lC7 n)=true:=by kernel_rfl
def kC10(n:Nat):i6u (j83 n)=true:=by kernel_rfl
def kI0:i6u lI0=true:=by kernel_rfl
def kI1(w:O UInt8)(v:fQ):i6u (lI1 w v)=true:=by kernel_rfl
def kI2(w:O UInt8)(v:fQ):i6u (lI2 w v)=true:=by kernel_rfl
def kL1(n:Nat):i6u (lL1 n)=true:=by kernel_rfl
def kL2(w:O UInt8)(v:fQ):i6u (lL2 w v)=true:=by kernel_rfl
def kG1(a i m:Nat):i6u (lG1 a i m)=true:=by kernel_rfl
def kG2(i:Nat)(w:O UInt8)(v:fQ):i6u (lG2 i w v)=true:=by kernel_rfl
def kG3:i6u lG3=true:=by kernel_rfl
def kG4(i m:Nat):i6u (lG4 i m)=true:=by kernel_rfl
def kG5(i:Nat):i6u (lG5 i)=true:=by kernel_rfl
def kR1(w:O UInt8)(v:fQ):i6u (lR1 w v)=true:=by kernel_rfl
def kR2:i6u lR2=true:=by kernel_rfl
def i7w(n:Nat):O UInt8:=g4v 20 (n/100)++(46::(g4v 20 (n/10%10)++g4v 20 (n%10)))
def i5d(n:Nat):fQ:=⟨((n/Nat.gcd n 100:Nat):Int),((100/Nat.gcd n 100:Nat):Int)⟩
def i6z(a k:Nat):Bool:=(List.range k).all λi=>j7v (i7w (a+i)) (i5d (a+i)) 2
def pc0:i6z 0 100=true:=by kernel_rfl
def pc1:i6z 100 100=true:=by kernel_rfl
def pc2:i6z 200 100=true:=by kernel_rfl
def pc3:i6z 300 100=true:=by kernel_rfl
def pc4:i6z 400 100=true:=by kernel_rfl
def pc5:i6z 500 100=true:=by kernel_rfl
def pc6:i6z 600 100=true:=by kernel_rfl
def i7b{a k n:Nat}(h:i6z a k=true)(b:a<=n)(c:n<a+k):NumX (i7w n) (i5d n) 2:=by have:=qX.1 h (n-a) (by simp;omega);rw[show a+(n-a)=n by omega]at this;exact .chk this
def i6l{n:Nat}(h:n<700):NumX (i7w n) (i5d n) 2:=by
 rcases Nat.lt_or_ge n 100with f|f;.exact i7b pc0 (by omega) (by omega)
 rcases Nat.lt_or_ge n 200with e|e;.exact i7b pc1 f (by omega)
 rcases Nat.lt_or_ge n 300with d|d;.exact i7b pc2 e (by omega)
 rcases Nat.lt_or_ge n 400with c|c;.exact i7b pc3 d (by omega)
 rcases Nat.lt_or_ge n 500with b|b;.exact i7b pc4 c (by omega)
 rcases Nat.lt_or_ge n 600with a|a;.exact i7b pc5 b (by omega)
 .exact i7b pc6 a (by omega)
def i7v(n:Nat):0<Nat.gcd n 100:=Nat.gcd_pos_of_pos_right _ (by decide)
def i72{n:Nat}(h:0<n):0<(i5d n).Num:=by have a:Nat.gcd n 100∣n:=Nat.gcd_dvd_left _ _;have b:=Nat.div_pos (Nat.le_of_dvd h a) (i7v n);show(0:Int)<((n/Nat.gcd n 100:Nat):Int);omega
def j1g(n:Nat):(i5d n).Den≠0:=by have a:Nat.gcd n 100∣100:=Nat.gcd_dvd_right _ _;have b:=Nat.div_pos (Nat.le_of_dvd (by decide) a) (i7v n);show((100/Nat.gcd n 100:Nat):Int)≠0;omega
def i9r{n:Nat}(h:n<1000):a01 (n:Int)=some ⟨(i7w n).toArray⟩:=by
 unfold a01;have d:c2t (n:Int) 100=some ((n/100:Nat):Int):=by unfold c2t;rw[if_neg (by decide),Int.tdiv_eq_ediv_of_nonneg (by omega),e9 (by omega) (by omega)];congr 1
 have f:c2t (n:Int) 10=some ((n/10:Nat):Int):=by unfold c2t;rw[if_neg (by decide),Int.tdiv_eq_ediv_of_nonneg (by omega),e9 (by omega) (by omega)];congr 1
 have e:b8t ((n/10:Nat):Int) 10=some ((n/10%10:Nat):Int):=by unfold b8t;rw[if_neg (by decide),Int.tmod_eq_emod_of_nonneg (by omega)];congr 1
 have i:b8t (n:Int) 10=some ((n%10:Nat):Int):=by unfold b8t;rw[if_neg (by decide),Int.tmod_eq_emod_of_nonneg (by omega)];congr 1
 have a:∀m,m<10->(g4v 20 m).length<=1:=λm k=>i6e 20 m 0 (by omega);have o:=a (n/100) (by omega);have l:=a (n/10%10) (by omega);have p:=a (n%10) (by omega);have c:a7f ⟨(g4v 20 (n/100)).toArray⟩ b1i=some ⟨(g4v 20 (n/100)++[46]).toArray⟩:=i9w (b:=[46]) (by simp;omega);have j:a7f ⟨(g4v 20 (n/100)++[46]).toArray⟩ ⟨(g4v 20 (n/10%10)).toArray⟩=some ⟨(g4v 20 (n/100)++[46]++g4v 20 (n/10%10)).toArray⟩:=i9w (by simp;omega);have g:a7f ⟨(g4v 20 (n/100)++[46]++g4v 20 (n/10%10)).toArray⟩ ⟨(g4v 20 (n%10)).toArray⟩=some ⟨(g4v 20 (n/100)++[46]++g4v 20 (n/10%10)++g4v 20 (n%10)).toArray⟩:=i9w (by simp;omega);simp only[d,f,e,i,qA,i5o (show n/100<1000000by omega),i5o (show n/10%10<1000000by omega),i5o (show n%10<1000000by omega),c,j,g];unfold i7w;simp
structure Ps where
 day:Int
 date:List UInt8
 m:Int
 mx:ByteArray
 u:Nat
 l7:Nat
 l10:Nat
 c1:Bool
 c2:Bool
 c3:Bool
 c4:Bool
 c5:Bool
 na:Nat
 nb:Nat
 np:Nat
 yr:Nat
 g1a:Nat
 g1i:Nat
 g1m:Nat
 g2i:Nat
 nd:Nat
 g4i:Nat
 g4m:Nat
 g5i:Nat
 nr:Nat
structure PsOK(P:Ps):Prop where
 dt:i8v (64::P.date) P.day=true
 d0:0<=P.day
 d1:P.day<=73048mw:j0q P.mx=true
 mo:ofW P.mx 3=some P.m
 m0:1<=P.m
 m1:P.m<=4mS:nz (a4u j0t P.m)=true
 u0:1<=P.u
 u1:P.u<=100000l70:1<=P.l7
 l71:P.l7<=73049l100:1<=P.l10
 l101:P.l10<=73049na0:1<=P.na
 na1:P.na<700nb0:1<=P.nb
 nb1:P.nb<700np1:P.np<700nd1:P.nd<700nr1:P.nr<700yr1:P.yr<=100000a1:P.g1a<=100000a2:P.g1i<=100000a3:P.g1m<=100000a4:P.g2i<=100000a5:P.g4i<=100000a6:P.g4m<=100000a7:P.g5i<=100000
def Ps.prs(P:Ps):O (O Lx×Cl):=[(lC6,.credit 6 0),(lC7 P.l7,.credit 7 P.l7)]++((if P.c1 then[(j83 P.l10,.credit 10 P.l10)]else[])++((if P.c2 then[(lC5,.credit 5 0)]else[])++([(lI0,.index 1960 ⟨1,1⟩),(lI1 (i7w P.na) (i5d P.na),.index 1980 (i5d P.na)),(lI2 (i7w P.nb) (i5d P.nb),.index 1995 (i5d P.nb)),(lL1 P.yr,.lett i4l (aL1 P.yr)),(lL2 (i7w P.np) (i5d P.np),.lett i4z (aL2 (i5d P.np))),(lG1 P.g1a P.g1i P.g1m,.grant 1 (j8j P.g1a P.g1i) (j97 P.g1m)),(lG2 P.g2i (i7w P.nd) (i5d P.nd),.grant 2 (j1k P.g2i) (k0i (i5d P.nd)))]++((if P.c3 then[(lG3,.grant 3 j7n j7q)]else[])++([(lG4 P.g4i P.g4m,.grant 4 (j1k P.g4i) (k0h P.g4m)),(lG5 P.g5i,.grant 5 (j1k P.g5i) k0a)]++((if P.c4 then[(lR1 (i7w P.nr) (i5d P.nr),.reduce 1 (aR1 (i5d P.nr)))]else[])++(if P.c5 then[(lR2,.reduce 2 aR2)]else[])))))))
def j1p(P:Ps):O Lx:=[W c4c,⟨.d P.day,64::P.date,true⟩,Sg e8b,W c14,W P.mx,num P.u [] 2 false,Sg c3s]
def Ps.cls(P:Ps):O Cl:=P.prs.map (·.2)
def fl(l:O (O Lx×Cl)):O Lx:=l.flatMap (·.1)
def lxV(P:Ps):O Lx:=j1p P++(fl P.prs++[Sg d0a])
structure PrOK(p:List Lx×Cl):Prop where
 k:i6u p.1=true
 n:i9o p.1r:∀ts,ClR (tk p.1 ts) p.2 ts
def i63{a:Type}{b:Bool}{x:a}{l:O a}(h:x∈(if b=true then l else[])):x∈l:=by cases b with|false=>cases h|true=>exact h
def j5u{P:Ps}(h:PsOK P):∀p∈P.prs,PrOK p:=by
 have d:∀{n:Nat},n<=100000->NumX (g4v 20 n++[]) ⟨(n:Int),1⟩ 2:=λc=>.whole c (.inl ⟨rfl,rfl⟩);have b:∀{n:Nat},n<=100000->NumX (g4v 20 n++[100]) ⟨(n:Int),1⟩ 3:=λc=>.whole c (.inr (.inl ⟨rfl,rfl⟩));have e:∀{n:Nat},n<=100000->NumX (g4v 20 n++[109]) ⟨(n:Int),1⟩ 4:=λc=>.whole c (.inr (.inr ⟨rfl,rfl⟩));have g:=h.l71;have f:=h.l101;have t:=trivial;intro p a;unfold Ps.prs at a;rcases qK.1 a with a|a
 .simp only[qO,List.not_mem_nil,or_false]at a;rcases a with rfl|rfl;.exact⟨kC6,⟨t,t,t,t⟩,rC6⟩
  .exact⟨kC7 _,⟨t,t,t,d (by omega),t,t⟩,rC7 h.l70 h.l71⟩
 rcases qK.1 a with a|a;.have a:=i63 a;rw[qF]at a;subst a;exact⟨kC10 _,⟨t,t,t,d (by omega),t,t⟩,rC10 h.l100 h.l101⟩
 rcases qK.1 a with a|a;.have a:=i63 a;rw[qF]at a;subst a;exact⟨kC5,⟨t,t,t,t⟩,rC5⟩
 rcases qK.1 a with a|a
 .simp only[qO,List.not_mem_nil,or_false]at a;rcases a with rfl|rfl|rfl|rfl|rfl|rfl|rfl;.exact⟨kI0,⟨t,k1l,x1,t,t⟩,rI0⟩
  .exact⟨kI1 _ _,⟨t,k28,i6l h.na1,t,t⟩,rI1 (i72 h.na0) (j1g _)⟩
  .exact⟨kI2 _ _,⟨t,k1n,i6l h.nb1,t,t⟩,rI2 (i72 h.nb0) (j1g _)⟩
  .exact⟨kL1 _,⟨t,t,t,t,t,b h.yr1,t,t⟩,rL1 _⟩
  .exact⟨kL2 _ _,⟨t,t,t,t,t,t,t,i6l h.np1,t,k0y,t,t,t⟩,rL2 _ _⟩
  .exact⟨kG1 _ _ _,⟨t,t,t,t,t,d h.a1,t,t,t,b h.a2,t,t,t,t,t,t,t,e h.a3,t,t,t⟩,rG1 _ _ _⟩
  .exact⟨kG2 _ _ _,⟨t,t,t,t,t,b h.a4,t,t,t,i6l h.nd1,t,t⟩,rG2 _ _ _⟩
 rcases qK.1 a with a|a;.have a:=i63 a;rw[qF]at a;subst a;exact⟨kG3,⟨t,t,t,t,t,t,t,x30d,t,t,t,t,t,xp60,t,t⟩,rG3⟩
 rcases qK.1 a with a|a
 .simp only[qO,List.not_mem_nil,or_false]at a;rcases a with rfl|rfl;.exact⟨kG4 _ _,⟨t,t,t,t,t,b h.a5,t,e h.a6,t,t,t,t⟩,rG4 _ _⟩
  .exact⟨kG5 _,⟨t,t,t,t,t,b h.a7,t,t,t,x3,t,t,x12,t,xp70,t,t⟩,rG5 _⟩
 rcases qK.1 a with a|a;.have a:=i63 a;rw[qF]at a;subst a;exact⟨kR1 _ _,⟨t,t,t,i6l h.nr1,t,t⟩,rR1 _ _⟩
 .have a:=i63 a;rw[qF]at a;subst a;exact⟨kR2,⟨t,t,t,t,t,t,x60,t,xp50,t,x1,t,t⟩,rR2⟩
def j6w:∀(l:O (O Lx×Cl)),(∀p∈l,PrOK p)->∀rest,okA (fl l) rest|[],_,_=>trivial|p::l,h,rest=>i4u p.1 (fl l) rest (i6s p.1 (h p (by simp)).k (h p (by simp)).n _) (j6w l (λq b=>h q (by simp[b])) rest)
def j70:∀(l:O (O Lx×Cl)),(∀p∈l,PrOK p)->∀ts,ClsR (tk (fl l++[Sg d0a]) ts) (l.map (·.2)) ts
 |[],_,ts=>ClsR.nil|p::l,h,ts=>by
   have a:=(h p (by simp)).r (tk (fl l++[Sg d0a]) ts);have d:=j70 l (λq c=>h q (by simp[c])) ts;have e:tk (fl (p::l)++[Sg d0a]) ts=tk p.1 (tk (fl l++[Sg d0a]) ts):=by unfold tk fl;simp
   rw[e];exact ClsR.cons a d
def j7u(P:Ps):P.cls.length<=900:=by
 unfold Ps.cls Ps.prs;simp only[List.length_map,qL,qR,qS];have e:∀(b:Bool)(x:O Lx×Cl),(if b=true then[x]else[]).length<=1:=λb x=>by cases b<;>simp
 have a:=e P.c1 (j83 P.l10,.credit 10 P.l10);have c:=e P.c2 (lC5,.credit 5 0);have f:=e P.c3 (lG3,.grant 3 j7n j7q);have g:=e P.c4 (lR1 (i7w P.nr) (i5d P.nr),.reduce 1 (aR1 (i5d P.nr)));have d:=e P.c5 (lR2,.reduce 2 aR2);omega
def Ps.ver(P:Ps):Version:=j9i P.day P.m P.u P.cls
def j9a{P:Ps}(h:PsOK P)(ts:O Tk):VerR (tk (lxV P) ts) P.ver ts:=by refine⟨⟨P.day,P.m,P.u,P.mx,P.cls,tk (fl P.prs++[Sg d0a]) ts,?_,h.mo,by have:=h.m0;omega,by have:=h.u0;omega,by have:=h.u1;omega,j70 P.prs (j5u h) ts,j7u P,rfl⟩⟩;unfold lxV tk;rw[List.map_append,qQ];rfl
def j32{P:Ps}(h:PsOK P)(rest:O UInt8):okA (lxV P) rest:=by
 have a:i6u (j1p P)=true:=by unfold j1p;simp only[i6u,W,Sg,num,N,BEq.rfl,nx,h.dt,h.mw,Bool.true_and,Bool.and_true,Bool.true_or];kernel_rfl
 have b:i9o (j1p P):=⟨trivial,trivial,trivial,trivial,trivial,.whole h.u1 (.inl ⟨rfl,rfl⟩),trivial,trivial⟩;refine i4u _ _ _ (i6s _ a b _) (i4u _ _ _ (j6w _ (j5u h) _) (i6s [Sg d0a] (by kernel_rfl) ⟨trivial,trivial⟩ _))
def i9c:O iQ:=[⟨i4l,2⟩,⟨i4z,2⟩]
def Ps.crs(P:Ps):O Credit:=[⟨6,0⟩,⟨7,P.l7⟩]++((if P.c1 then[⟨10,P.l10⟩]else[])++(if P.c2 then[⟨5,0⟩]else[]))
def Ps.ixs(P:Ps):O Index:=[⟨1960,⟨1,1⟩⟩,⟨1980,i5d P.na⟩,⟨1995,i5d P.nb⟩]
def Ps.lts(P:Ps):O Let:=[⟨i4l,(aL1 P.yr).e⟩,⟨i4z,(aL2 (i5d P.np)).e⟩]
def Ps.grs(P:Ps):O Grant:=[⟨1,(j8j P.g1a P.g1i).e,(j97 P.g1m).e⟩,⟨2,(j1k P.g2i).e,(k0i (i5d P.nd)).e⟩]++((if P.c3 then[⟨3,j7n.e,j7q.e⟩]else[])++[⟨4,(j1k P.g4i).e,(k0h P.g4m).e⟩,⟨5,(j1k P.g5i).e,k0a.e⟩])
def Ps.rds(P:Ps):O Reduce:=(if P.c4 then[⟨1,(aR1 (i5d P.nr)).e⟩]else[])++(if P.c5 then[⟨2,aR2.e⟩]else[])
def j73(P:Ps):P.ver=⟨P.day,⟨P.m,P.u⟩,P.crs,P.ixs,P.lts,P.grs,P.rds⟩:=by obtain⟨j,a,m,w,u,r,k,c,o,i,b,e,s,y,t,q,g,h,f,d,x,l,n,p,v⟩:=P;cases c<;>cases o<;>cases i<;>cases b<;>cases e<;>rfl
def i4x{w:O UInt8}{v:fQ}{d:Int}(h:NumX w v d):(AE.lit v d).ok:=.mk ⟨h.f5,h.fS⟩ λb a=>by cases a
def i7r{s:A4}(h:(match a2e s,b0e s with|some true,some true=>true|_,_=>false)=true):(AE.nm s).ok:=by
 refine .mk ?_ λb a=>by cases a
 split at h;.rename_i d c;exact⟨d,c⟩
 .cases h
def j7g{k:Int}(d:1<=k)(c:k<=45):(AE.best k).ok:=.mk ⟨d,c⟩ λb a=>by cases a
def i4m{op:Int}{a b:AE}(d:7<=op)(e:op<=20)(f:a.ok)(g:b.ok):(AE.bin op a b).ok:=.mk ⟨d,e⟩ λx c=>by simp[AE.args]at c;rcases c with rfl|rfl<;>assumption
def k0f{a b c:AE}(e:a.ok)(f:b.ok)(g:c.ok):(AE.ite a b c).ok:=.mk trivial λx d=>by simp[AE.args]at d;rcases d with rfl|rfl|rfl<;>assumption
def j9e:(AE.nm e0r).ok:=i7r (by kernel_rfl)
def j31:(AE.nm b6u).ok:=i7r (by kernel_rfl)
def j2x:(AE.nm e39).ok:=i7r (by kernel_rfl)
def i9m:(AE.nm i4z).ok:=i7r (by kernel_rfl)
def i6r:(AE.nm i4l).ok:=i7r (by kernel_rfl)
def j3u:(AE.nm c5w).ok:=i7r (by kernel_rfl)
def k15:(AE.nm c3c).ok:=i7r (by kernel_rfl)
def k16:(AE.nm c6q).ok:=i7r (by kernel_rfl)
def env0:j01 []:=⟨by simp,λb a=>by cases a⟩
def env1:j01 [⟨i4l,2⟩]:=⟨by simp,λb a=>by rw[qF]at a;subst a;exact⟨by show(1:Int)<=2;decide,by show(2:Int)<=4;decide⟩⟩
def env2:j01 i9c:=⟨by simp[i9c],λb a=>by simp only[i9c,qO,List.not_mem_nil,or_false]at a;rcases a with rfl|rfl<;>exact⟨by show(1:Int)<=2;decide,by show(2:Int)<=4;decide⟩⟩
def j3p{b:O iQ}{a:AE}{d:Int}(h:a.ok)(e:Nat.ble a.dep 10=true)(c:Nat.ble a.sz 60=true)(hi:a.inf b=some d):ExOK b a.e d:=⟨a,rfl,h,qW e,qW c,hi⟩
def j6k{s:A4}(h:(AE.nm s).ok):b9o s=some true:=by unfold b9o;rw[show(⟨2,⟨0,0⟩,0,s,[]⟩:Expr)=(AE.nm s).e from rfl,i5t h (show 1<=10by decide) (show 1<=60by decide)];rfl
def j9p{P:Ps}(h:PsOK P):b9n P.lts=some (i9c,0):=by
 have l:(aL1 P.yr).ok:=i4m (by decide) (by decide) j31 (i4x (.whole h.yr1 (.inr (.inl ⟨rfl,rfl⟩))));have c:(aL2 (i5d P.np)).ok:=i4m (by decide) (by decide) (i4m (by decide) (by decide) i6r (i4x (i6l h.np1))) (i4x k0y);have p:=i8s env0 l (qW (by kernel_rfl)) (qW (by kernel_rfl)) (d:=2) (by kernel_rfl);have t:=i8s env1 c (qW (by kernel_rfl)) (qW (by kernel_rfl)) (d:=2) (by kernel_rfl);unfold b9n;have a:P.lts.length=2:=rfl;rw[if_neg (by rw[a];decide)];obtain⟨m,s⟩:=j17;rw[s,d24];generalize b:d9 (m+1+1) (i4k P.lts)=A;unfold i4k;have f:c7 P.lts 0=some ⟨i4l,(aL1 P.yr).e⟩:=rfl;have o:c7 P.lts 1=some ⟨i4z,(aL2 (i5d P.np)).e⟩:=rfl;have n:a0q [] ⟨i4l,(aL1 P.yr).e⟩=some false:=by kernel_rfl
 have r:a0q [⟨i4l,2⟩] ⟨i4z,(aL2 (i5d P.np)).e⟩=some false:=by kernel_rfl
 have k:b4n i4l=some (0,false):=by kernel_rfl
 have j:b4n i4z=some (0,false):=by kernel_rfl
 have i:a4n 24 ([]:O iQ) [⟨i4l,2⟩]=some [⟨i4l,2⟩]:=i5u (by simp) (by decide);have q:a4n 24 ([⟨i4l,2⟩]:O iQ) [⟨i4z,2⟩]=some i9c:=i5u (by simp) (by decide);simp only[a,show decide ((0:Int)<((2:Nat):Int))=true from rfl,if_true,f,qA,k,qM,if_false,j6k i6r,qU,n,p,show((0:Int)!=0)=false from rfl,i];rw[<-b,d24];generalize g:d9 (m+1) (i4k P.lts)=B;unfold i4k;simp only[a,show i64 (0+1)=1from rfl,show decide ((1:Int)<((2:Nat):Int))=true from rfl,if_true,o,qA,j,qM,if_false,j6k i9m,qU,r,t,show((0:Int)!=0)=false from rfl,q];rw[<-g,d24];unfold i4k;simp only[a,show i64 (1+1)=2from rfl,show decide ((2:Int)<((2:Nat):Int))=false from rfl,qM,if_false]
def j2t{P:Ps}(h:PsOK P):VOK i9c P.ver:=by
 have J:=h.l71;have N:∀{n:Nat},n<=100000->(AE.lit ⟨(n:Int),1⟩ 2).ok:=λm=>i4x (.whole m (.inl ⟨rfl,rfl⟩));have o:∀{n:Nat},n<=100000->(AE.lit ⟨(n:Int),1⟩ 3).ok:=λm=>i4x (.whole m (.inr (.inl ⟨rfl,rfl⟩)));have D:∀{n:Nat},n<=100000->(AE.lit ⟨(n:Int),1⟩ 4).ok:=λm=>i4x (.whole m (.inr (.inr ⟨rfl,rfl⟩)));have k:∀{i:Nat},i<=100000->ExOK i9c (j1k i).e 1:=λL=>j3p (i4m (by decide) (by decide) j31 (o L)) (by kernel_rfl) (by kernel_rfl) (by kernel_rfl);have y:ExOK i9c (j8j P.g1a P.g1i).e 1:=j3p (i4m (by decide) (by decide) (i4m (by decide) (by decide) j9e (N h.a1)) (i4m (by decide) (by decide) j31 (o h.a2))) (by kernel_rfl) (by kernel_rfl) (by kernel_rfl);have u:ExOK i9c (j97 P.g1m).e 4:=j3p (i4m (by decide) (by decide) (i4m (by decide) (by decide) j2x i9m) (D h.a3)) (by kernel_rfl) (by kernel_rfl) (by kernel_rfl);have p:ExOK i9c (k0i (i5d P.nd)).e 4:=j3p (i4m (by decide) (by decide) j2x (i4x (i6l h.nd1))) (by kernel_rfl) (by kernel_rfl) (by kernel_rfl);have w:ExOK i9c j7n.e 1:=j3p (i4m (by decide) (by decide) (i4m (by decide) (by decide) j3u k15) (i4x x30d)) (by kernel_rfl) (by kernel_rfl) (by kernel_rfl);have t:ExOK i9c j7q.e 4:=j3p (i4m (by decide) (by decide) (i4m (by decide) (by decide) j2x i9m) (i4x xp60)) (by kernel_rfl) (by kernel_rfl) (by kernel_rfl);have v:ExOK i9c (k0h P.g4m).e 4:=j3p (i4m (by decide) (by decide) (D h.a6) k16) (by kernel_rfl) (by kernel_rfl) (by kernel_rfl);have z:ExOK i9c k0a.e 4:=j3p (i4m (by decide) (by decide) (i4m (by decide) (by decide) (j7g (by decide) (by decide)) (i4x x12)) (i4x xp70)) (by kernel_rfl) (by kernel_rfl) (by kernel_rfl);have q:ExOK i9c (aR1 (i5d P.nr)).e 2:=j3p (i4x (i6l h.nr1)) (by kernel_rfl) (by kernel_rfl) (by kernel_rfl);have s:ExOK i9c aR2.e 2:=j3p (k0f (i4m (by decide) (by decide) j9e (i4x x60)) (i4x xp50) (i4x x1)) (by kernel_rfl) (by kernel_rfl) (by kernel_rfl);have C:BnOK 1:=⟨by kernel_rfl,by kernel_rfl⟩;have B:BnOK 2:=⟨by kernel_rfl,by kernel_rfl⟩;have H:BnOK 3:=⟨by kernel_rfl,by kernel_rfl⟩;have G:BnOK 4:=⟨by kernel_rfl,by kernel_rfl⟩;have Q:BnOK 5:=⟨by kernel_rfl,by kernel_rfl⟩;have l:∀{M:Type}(b:Bool)(x:M),(if b=true then[x]else[]).length<=1:=λb x=>by cases b<;>simp
 have I:=j9p h;have R:=h.u0;have K:=h.u1;have F:=h.l101;rw[j73];refine⟨h.d0,h.d1,h.m0,h.m1,h.mS,by show(1:Int)<=(P.u:Int);omega,by show(P.u:Int)<=100000;omega,?_,by show(3:Nat)<=20;decide,by show(2:Nat)<=10;decide,?_,?_,?_,?_,?_,?_,?_,I,?_,env2,?_,?_,?_,?_⟩;.show P.crs.length<=6;unfold Ps.crs;have:=l P.c1 (⟨10,P.l10⟩:Credit);have:=l P.c2 (⟨5,0⟩:Credit);simp only[qL,qR,qS];omega
 .show P.grs.length<=5;unfold Ps.grs;have:=l P.c3 (⟨3,j7n.e,j7q.e⟩:Grant);simp only[qL,qR,qS];omega
 .show P.rds.length<=5;unfold Ps.rds;have:=l P.c4 (⟨1,(aR1 (i5d P.nr)).e⟩:Reduce);have:=l P.c5 (⟨2,aR2.e⟩:Reduce);simp only[qL];omega
 .intro c a;have a:c∈P.crs:=a;unfold Ps.crs at a;rcases qK.1 a with a|a
  .simp only[qO,List.not_mem_nil,or_false]at a;rcases a with rfl|rfl;.exact⟨by kernel_rfl,by kernel_rfl,by show(0:Int)<=0;decide,by show(0:Int)<=73049;decide⟩
   .exact⟨by kernel_rfl,by kernel_rfl,by show(0:Int)<=(P.l7:Int);omega,by show(P.l7:Int)<=73049;omega⟩
  rcases qK.1 a with a|a;.have a:=i63 a;rw[qF]at a;subst a;exact⟨by kernel_rfl,by kernel_rfl,by show(0:Int)<=(P.l10:Int);omega,by show(P.l10:Int)<=73049;omega⟩
  .have a:=i63 a;rw[qF]at a;subst a;exact⟨by kernel_rfl,by kernel_rfl,by show(0:Int)<=0;decide,by show(0:Int)<=73049;decide⟩
 .show P.crs.Pairwise _;unfold Ps.crs;cases P.c1<;>cases P.c2<;>simp
 .intro x d;have d:x∈P.ixs:=d;unfold Ps.ixs at d;simp only[qO,List.not_mem_nil,or_false]at d;rcases d with rfl|rfl|rfl;.exact⟨by show(1900:Int)<=1960;decide,by show(1960:Int)<=2099;decide,by show(1:Int)<=1;decide,x1.f5,x1.fS⟩
  .exact⟨by show(1900:Int)<=1980;decide,by show(1980:Int)<=2099;decide,i72 h.na0,(i6l h.na1).f5,(i6l h.na1).fS⟩
  .exact⟨by show(1900:Int)<=1995;decide,by show(1995:Int)<=2099;decide,i72 h.nb0,(i6l h.nb1).f5,(i6l h.nb1).fS⟩
 .show P.ixs.Pairwise _;unfold Ps.ixs;simp
 .intro x d;have d:x∈P.lts:=d;unfold Ps.lts at d;simp only[qO,List.not_mem_nil,or_false]at d;have E:(aL1 P.yr).ok:=i4m (by decide) (by decide) j31 (o h.yr1);have A:(aL2 (i5d P.np)).ok:=i4m (by decide) (by decide) (i4m (by decide) (by decide) i6r (i4x (i6l h.np1))) (i4x k0y);rcases d with rfl|rfl;.exact⟨i6r.leaf.1,i6r.leaf.2,i8r E (qW (by kernel_rfl)) (qW (by kernel_rfl)),i5t E (qW (by kernel_rfl)) (qW (by kernel_rfl))⟩
  .exact⟨i9m.leaf.1,i9m.leaf.2,i8r A (qW (by kernel_rfl)) (qW (by kernel_rfl)),i5t A (qW (by kernel_rfl)) (qW (by kernel_rfl))⟩
 .intro x d;have d:x∈P.lts:=d;unfold Ps.lts at d;simp only[qO,List.not_mem_nil,or_false]at d;rcases d with rfl|rfl;.exact⟨_,rfl,i4m (by decide) (by decide) j31 (o h.yr1),qW (by kernel_rfl)⟩
  .exact⟨_,rfl,i4m (by decide) (by decide) (i4m (by decide) (by decide) i6r (i4x (i6l h.np1))) (i4x k0y),qW (by kernel_rfl)⟩
 .intro g f;have f:g∈P.grs:=f;unfold Ps.grs at f;rcases qK.1 f with f|f
  .simp only[qO,List.not_mem_nil,or_false]at f;rcases f with rfl|rfl;.exact⟨C,y,u⟩
   .exact⟨B,k h.a4,p⟩
  rcases qK.1 f with f|f;.have f:=i63 f;rw[qF]at f;subst f;exact⟨H,w,t⟩
  .simp only[qO,List.not_mem_nil,or_false]at f;rcases f with rfl|rfl;.exact⟨G,k h.a5,v⟩
   .exact⟨Q,k h.a7,z⟩
 .show P.grs.Pairwise _;unfold Ps.grs;cases P.c3<;>simp
 .intro r j;have j:r∈P.rds:=j;unfold Ps.rds at j;rcases qK.1 j with j|j;.have j:=i63 j;rw[qF]at j;subst j;exact⟨C,q⟩
  .have j:=i63 j;rw[qF]at j;subst j;exact⟨B,s⟩
 .show P.rds.Pairwise _;unfold Ps.rds;cases P.c4<;>cases P.c5<;>simp
def i3y{a b c:A4}(h:a7f a b=some c):bl c=bl a++bl b:=by
 unfold a7f at h;split at h;.have h:=qH h;subst h;unfold bl;rw[ByteArray.data_append,Array.toList_append]
 .cases h
def i48{a n v:Int}(h:b7 a n=some v)(hn:0<n)(b:n<=9223372036854775807):0<=v/\v<n:=by obtain⟨r,d,c⟩:=a1i (a:=a) hn b;rw[d]at h;have h:=qH h;subst h;exact c
def i7c{x:Int}{s:A4}(h:i8 x=some s){n:Nat}(e:x=(n:Int))(hn:n<1000000):bl s=g4v 20 n:=by subst e;rw[i5o hn]at h;have h:=qH h;subst h;rfl
def j2v{x:Int}{s:A4}(h:a01 x=some s){n:Nat}(e:x=(n:Int))(hn:n<1000):bl s=i7w n:=by subst e;rw[i9r hn]at h;have h:=qH h;subst h;rfl
def T(l:O (O Lx×Cl)):O UInt8:=i40 (fl l)
def i6y(p:O Lx×Cl)(l:O (O Lx×Cl)):T (p::l)=i40 p.1++T l:=by unfold T fl;rw[List.flatMap_cons,i47]
def i9h:T []=[]:=rfl
def i5m(a b:O (O Lx×Cl)):T (a++b)=T a++T b:=by unfold T fl;rw[List.flatMap_append,i47]
def tEnd:i40 [Sg d0a]=bl d3i:=rfl
def tC67(n:Nat):i40 lC6++i40 (lC7 n)=bl d01++(g4v 20 n++bl b7x):=by simp only[i40,lC6,lC7,W,Sg,Wn,Sh,num,N,blk,cond_true,cond_false,qQ,List.nil_append];rfl
def tC10(n:Nat):i40 (j83 n)=bl c8s++(g4v 20 n++bl b7x):=by simp only[i40,j83,W,Sg,Wn,Sh,num,N,blk,cond_true,cond_false,qQ,List.nil_append];rfl
def tC5:i40 lC5=bl c9v:=by kernel_rfl
def tI(a b:O UInt8)(d c:fQ):i40 lI0++(i40 (lI1 a d)++i40 (lI2 b c))=bl c9k++(a++(bl c9z++(b++bl b7x))):=by simp only[i40,lI0,lI1,lI2,W,Sg,Wn,Sh,num,N,blk,cond_true,cond_false,qQ,List.nil_append];rfl
def tL(n:Nat)(w:O UInt8)(v:fQ):i40 (lL1 n)++i40 (lL2 w v)=bl c83++(g4v 20 n++(bl c8f++(w++bl d0e))):=by simp only[i40,lL1,lL2,W,Sg,Wn,Sh,num,N,blk,cond_true,cond_false,qQ,List.nil_append];rfl
def tG1(a i m:Nat):i40 (lG1 a i m)=bl c8t++(g4v 20 a++(bl c8p++(g4v 20 i++(bl d02++(g4v 20 m++bl c6o))))):=by simp only[i40,lG1,W,Sg,Wn,Sh,num,N,blk,cond_true,cond_false,qQ,List.nil_append];rfl
def tG2(i:Nat)(w:O UInt8)(v:fQ):i40 (lG2 i w v)=bl c8d++(g4v 20 i++(bl c80++(w++bl b7x))):=by simp only[i40,lG2,W,Sg,Wn,Sh,num,N,blk,cond_true,cond_false,qQ,List.nil_append];rfl
def tG3:i40 lG3=bl c9d:=by kernel_rfl
def tG4(i m:Nat):i40 (lG4 i m)=bl c86++(g4v 20 i++(bl d1p++(g4v 20 m++bl c9u))):=by simp only[i40,lG4,W,Sg,Wn,Sh,num,N,blk,cond_true,cond_false,qQ,List.nil_append];rfl
def tG5(i:Nat):i40 (lG5 i)=bl c9l++(g4v 20 i++bl c7y):=by simp only[i40,lG5,W,Sg,Wn,Sh,num,N,blk,cond_true,cond_false,qQ,List.nil_append];rfl
def tR1(w:O UInt8)(v:fQ):i40 (lR1 w v)=bl b7g++(w++bl b7x):=by simp only[i40,lR1,W,Sg,Wn,Sh,num,N,blk,cond_true,cond_false,qQ,List.nil_append];rfl
def tR2:i40 lR2=bl c8b:=by kernel_rfl
def q5(a:Bool):O (O Lx×Cl):=if a then[(lR2,.reduce 2 aR2)]else[]
def q4(a c b d:Nat)(e f:Bool):O (O Lx×Cl):=[(lG4 a c,.grant 4 (j1k a) (k0h c)),(lG5 b,.grant 5 (j1k b) k0a)]++((if e then[(lR1 (i7w d) (i5d d),.reduce 1 (aR1 (i5d d)))]else[])++q5 f)
def q3(g i f l b d a c e h k j p:Nat)(n m o:Bool):O (O Lx×Cl):=[(lI0,.index 1960 ⟨1,1⟩),(lI1 (i7w g) (i5d g),.index 1980 (i5d g)),(lI2 (i7w i) (i5d i),.index 1995 (i5d i)),(lL1 l,.lett i4l (aL1 l)),(lL2 (i7w f) (i5d f),.lett i4z (aL2 (i5d f))),(lG1 b d a,.grant 1 (j8j b d) (j97 a)),(lG2 c (i7w e) (i5d e),.grant 2 (j1k c) (k0i (i5d e)))]++((if n then[(lG3,.grant 3 j7n j7q)]else[])++q4 h k j p m o)
structure Q4OK(g4i g4m g5i nr:Nat):Prop where h1:g4i<=100000h2:g4m<=100000h3:g5i<=100000h4:nr<700
structure Q3OK(na nb np g1a g1i g1m g2i nd:Nat):Prop where
 h1:1<=na
 h2:na<700h3:1<=nb
 h4:nb<700h5:np<700h6:nd<700h7:g1a<=100000h8:g1i<=100000h9:g1m<=100000h10:g2i<=100000
section
variable {n:O Int} {k:Int} {pre r:A4}
def j2z(a:joinC a5b (n,k,pre)=some r):∃t,bl r=bl pre++(T (q5 t)++bl d3i):=by
 unfold joinC a5b at a;dsimp only at a;obtain⟨p,o,a⟩:=qP.1 a;obtain⟨g,h,a⟩:=qP.1 a;have f:=i48 h (by decide) (by decide);obtain⟨g,rfl⟩:=qT f.1;split at a
 .refine⟨true,?_⟩;obtain⟨l,b,a⟩:=qP.1 a;have j:=i3y b;obtain⟨q,e,a⟩:=qP.1 a;have c:=i3y e;have a:=qH a;subst a;have s:T (q5 true)=bl c8b:=by unfold q5;rw[if_pos rfl,i6y,i9h,List.append_nil];exact tR2
  rw[c,j,qQ,s]
 .refine⟨false,?_⟩;obtain⟨m,i,a⟩:=qP.1 a;have d:=i3y i;have a:=qH a;subst a;rw[d];rfl
def j2h(a:joinC a5c (n,k,pre)=some r):∃t h g nr c4 D,Q4OK t h g nr/\bl r=bl pre++(T (q4 t h g nr c4 D)++bl d3i):=by
 unfold joinC a5c at a;dsimp only at a;obtain⟨v79,h79,a⟩:=qP.1 a;obtain⟨c,N,a⟩:=qP.1 a;have b80:=i48 N (by decide) (by decide);obtain⟨c,rfl⟩:=qT b80.1;obtain⟨v81,W,a⟩:=qP.1 a;have F:=i7c W (n:=c) rfl (by omega);obtain⟨v82,Y,a⟩:=qP.1 a;have u:=i3y Y;obtain⟨v83,S,a⟩:=qP.1 a;have i:=i3y S;obtain⟨v84,h84,a⟩:=qP.1 a;obtain⟨b,Q,a⟩:=qP.1 a;have J:=i48 Q (by decide) (by decide);obtain⟨b,rfl⟩:=qT J.1;obtain⟨v86,P,a⟩:=qP.1 a;have z:=i7c P (n:=10+b) (by rw[e9 (by omega) (by omega)];omega) (by omega);obtain⟨v87,Z,a⟩:=qP.1 a;have C:=i3y Z;obtain⟨v88,M,a⟩:=qP.1 a;have j:=i3y M;obtain⟨v89,G,a⟩:=qP.1 a;have E:=i3y G;obtain⟨v90,h90,a⟩:=qP.1 a;obtain⟨d,X,a⟩:=qP.1 a;have V:=i48 X (by decide) (by decide);obtain⟨d,rfl⟩:=qT V.1;obtain⟨v92,I,a⟩:=qP.1 a;have x:=i7c I (n:=d) rfl (by omega);obtain⟨v93,K,a⟩:=qP.1 a;have w:=i3y K;obtain⟨v94,h94,a⟩:=qP.1 a;have v:=i3y h94;obtain⟨v95,h95,a⟩:=qP.1 a;have o:=i3y h95;obtain⟨v96,h96,a⟩:=qP.1 a;obtain⟨L,h97,a⟩:=qP.1 a;have H:=i48 h97 (by decide) (by decide);obtain⟨L,rfl⟩:=qT H.1;split at a;.have hr0:=a;obtain⟨v98,h98,a⟩:=qP.1 a;obtain⟨f,U,a⟩:=qP.1 a;have R:=i48 U (by decide) (by decide);obtain⟨f,rfl⟩:=qT R.1;obtain⟨v100,p,a⟩:=qP.1 a;have q:=j2v p (n:=10*f) (by rw[e9 (by omega) (by omega)];omega) (by omega);obtain⟨v101,m,a⟩:=qP.1 a;have A:=i3y m;obtain⟨v102,B,a⟩:=qP.1 a;have y:=i3y B;obtain⟨v103,s,a⟩:=qP.1 a;have l:=i3y s;obtain⟨D,e⟩:=j2z a;refine⟨c,10+b,d,10*f,true,D,⟨by omega,by omega,by omega,by omega⟩,?_⟩;rw[e,l,y,A,q,o,v,w,x,E,j,C,z,i,u,F];simp only[q4,if_true,i5m,i6y,i9h,tG4,tG5,tR1,qQ,List.append_nil,List.nil_append]
 .obtain⟨D,e⟩:=j2z a;refine⟨c,10+b,d,0,false,D,⟨by omega,by omega,by omega,by omega⟩,?_⟩;rw[e,o,v,w,x,E,j,C,z,i,u,F];simp only[q4,qM,if_false,i5m,i6y,i9h,tG4,tG5,qQ,List.append_nil,List.nil_append]
def j3c{yt:A4}{G:Nat}(hy:bl yt=g4v 20 G)(a:joinC a5j (n,k,yt,pre)=some r):∃na nb np R v V F nd b f d p c3 X M,Q3OK na nb np R v V F nd/\Q4OK b f d p/\bl r=bl pre++(T (q3 na nb np G R v V F nd b f d p c3 X M)++bl d3i):=by
 unfold joinC a5j at a;dsimp only at a;obtain⟨v29,h29,a⟩:=qP.1 a;obtain⟨c,h30,a⟩:=qP.1 a;have b30:=i48 h30 (by decide) (by decide);obtain⟨c,rfl⟩:=qT b30.1;obtain⟨v31,h31,a⟩:=qP.1 a;have E:=j2v h31 (n:=100+c) (by rw[e9 (by omega) (by omega)];omega) (by omega);obtain⟨v32,h32,a⟩:=qP.1 a;have S:=i3y h32;obtain⟨v33,h33,a⟩:=qP.1 a;have u:=i3y h33;obtain⟨v34,h34,a⟩:=qP.1 a;obtain⟨h,h35,a⟩:=qP.1 a;have b35:=i48 h35 (by decide) (by decide);obtain⟨h,rfl⟩:=qT b35.1;obtain⟨v36,h36,a⟩:=qP.1 a;have Q:=j2v h36 (n:=400+h) (by rw[e9 (by omega) (by omega)];omega) (by omega);obtain⟨v37,h37,a⟩:=qP.1 a;have Y:=i3y h37;obtain⟨v38,h38,a⟩:=qP.1 a;have L:=i3y h38;obtain⟨v39,h39,a⟩:=qP.1 a;have W:=i3y h39;obtain⟨v40,h40,a⟩:=qP.1 a;have K:=i3y h40;obtain⟨v41,h41,a⟩:=qP.1 a;have q:=i3y h41;obtain⟨v42,h42,a⟩:=qP.1 a;obtain⟨g,h43,a⟩:=qP.1 a;have b43:=i48 h43 (by decide) (by decide);obtain⟨g,rfl⟩:=qT b43.1;obtain⟨v44,h44,a⟩:=qP.1 a;have Z:=j2v h44 (n:=1+g) (by rw[e9 (by omega) (by omega)];omega) (by omega);obtain⟨v45,h45,a⟩:=qP.1 a;have w:=i3y h45;obtain⟨v46,h46,a⟩:=qP.1 a;have H:=i3y h46;obtain⟨v47,h47,a⟩:=qP.1 a;have U:=i3y h47;obtain⟨v48,h48,a⟩:=qP.1 a;obtain⟨i,h49,a⟩:=qP.1 a;have b49:=i48 h49 (by decide) (by decide);obtain⟨i,rfl⟩:=qT b49.1;obtain⟨v50,h50,a⟩:=qP.1 a;have C:=i7c h50 (n:=50+i) (by rw[e9 (by omega) (by omega)];omega) (by omega);obtain⟨v51,h51,a⟩:=qP.1 a;have y:=i3y h51;obtain⟨v52,h52,a⟩:=qP.1 a;have x:=i3y h52;obtain⟨v53,h53,a⟩:=qP.1 a;obtain⟨m,h54,a⟩:=qP.1 a;have b54:=i48 h54 (by decide) (by decide);obtain⟨m,rfl⟩:=qT b54.1;obtain⟨v55,h55,a⟩:=qP.1 a;have z:=i7c h55 (n:=m) rfl (by omega);obtain⟨v56,h56,a⟩:=qP.1 a;have P:=i3y h56;obtain⟨v57,h57,a⟩:=qP.1 a;have A:=i3y h57;obtain⟨v58,h58,a⟩:=qP.1 a;obtain⟨j,h59,a⟩:=qP.1 a;have b59:=i48 h59 (by decide) (by decide);obtain⟨j,rfl⟩:=qT b59.1;obtain⟨v60,h60,a⟩:=qP.1 a;have s:=i7c h60 (n:=j) rfl (by omega);obtain⟨v61,h61,a⟩:=qP.1 a;have t:=i3y h61;obtain⟨v62,h62,a⟩:=qP.1 a;have J:=i3y h62;obtain⟨v63,h63,a⟩:=qP.1 a;have t63:=i3y h63;obtain⟨v64,h64,a⟩:=qP.1 a;obtain⟨o,h65,a⟩:=qP.1 a;have b65:=i48 h65 (by decide) (by decide);obtain⟨o,rfl⟩:=qT b65.1;obtain⟨v66,h66,a⟩:=qP.1 a;have D:=i7c h66 (n:=o) rfl (by omega);obtain⟨v67,h67,a⟩:=qP.1 a;have I:=i3y h67;obtain⟨v68,h68,a⟩:=qP.1 a;have B:=i3y h68;obtain⟨v69,h69,a⟩:=qP.1 a;obtain⟨l,h70,a⟩:=qP.1 a;have b70:=i48 h70 (by decide) (by decide);obtain⟨l,rfl⟩:=qT b70.1;obtain⟨v71,h71,a⟩:=qP.1 a;have t71:=j2v h71 (n:=20+l) (by rw[e9 (by omega) (by omega)];omega) (by omega);obtain⟨v72,h72,a⟩:=qP.1 a;have t72:=i3y h72;obtain⟨v73,h73,a⟩:=qP.1 a;have N:=i3y h73;obtain⟨v74,h74,a⟩:=qP.1 a;have t74:=i3y h74;obtain⟨v75,h75,a⟩:=qP.1 a;obtain⟨v76,h76,a⟩:=qP.1 a;have b76:=i48 h76 (by decide) (by decide);obtain⟨v76,rfl⟩:=qT b76.1;have eI:=tI (i7w (100+c)) (i7w (400+h)) (i5d (100+c)) (i5d (400+h));have eL:=tL G (i7w (1+g)) (i5d (1+g));split at a;.have hr0:=a;obtain⟨v77,h77,a⟩:=qP.1 a;have t77:=i3y h77;obtain⟨b,f,d,p,X,M,hq,e⟩:=j2h a;refine⟨100+c,400+h,1+g,50+i,m,j,o,20+l,b,f,d,p,true,X,M,⟨by omega,by omega,by omega,by omega,by omega,by omega,by omega,by omega,by omega,by omega⟩,hq,?_⟩;rw[e,t77,t74,N,t72,t71,B,I,D,t63,J,t,s,A,P,z,x,y,C,U,H,w,Z,q,K,W,L,Y,Q,u,S,E,hy];simp only[q3,if_true,i5m,i6y,i9h,tG1,tG2,tG3,qQ,List.append_nil,List.nil_append];rw[<-qQ (i40 lI0),<-qQ _ (i40 (lI2 _ _)),qQ (i40 lI0),eI,<-qQ (i40 (lL1 G)),eL];simp only[qQ]
 .obtain⟨b,f,d,p,X,M,hq,e⟩:=j2h a;refine⟨100+c,400+h,1+g,50+i,m,j,o,20+l,b,f,d,p,false,X,M,⟨by omega,by omega,by omega,by omega,by omega,by omega,by omega,by omega,by omega,by omega⟩,hq,?_⟩;rw[e,t74,N,t72,t71,B,I,D,t63,J,t,s,A,P,z,x,y,C,U,H,w,Z,q,K,W,L,Y,Q,u,S,E,hy];simp only[q3,qM,if_false,i5m,i6y,i9h,tG1,tG2,qQ,List.append_nil,List.nil_append];rw[<-qQ (i40 lI0),<-qQ _ (i40 (lI2 _ _)),qQ (i40 lI0),eI,<-qQ (i40 (lL1 G)),eL];simp only[qQ]
end
end Go.PL
