/- Texts of the proof, joined. -/
import Derived.Test.YtjdjoncobjojnaaGreatDoorP6
import Derived.KernelRfl
import Derived.Sort.AssemblyPlain
set_option linter.defProp false
set_option linter.unusedVariables false
set_option linter.unusedSimpArgs false
set_option maxRecDepth 100000
open List
namespace Go.PL
open Go Go.SX
def Tot{α:Type}(o:A3 α)(Q:α->Prop):Prop:=∃a,o=some a/\Q a
section
variable {α β:Type} {o:A3 α} {Q R:α -> Prop} {S:β -> Prop} {f:α -> A3 β} {a:α}
def tC(h:Q a):Tot (some a) Q:=⟨a,rfl,h⟩
def tA(h:Tot o Q)(hf:∀a,Q a->Tot (f a) S):Tot (Option.bind o f) S:=by obtain⟨a,rfl,hq⟩:=h;simp_all
def tD{c:Prop}[Decidable c]{x y:A3 α}(h1:c->Tot x Q)(h2:¬c->Tot y Q):Tot (if c then x else y) Q:=by grind
def Tot.mono(h:Tot o Q)(hq:∀a,Q a->R a):Tot o R:=by obtain⟨a,e,h⟩:=h;exact⟨a,e,hq a h⟩
def Tot.tr(h:Tot o Q):Tot o λ_=>True:=h.mono λ_ _=>trivial
def tJ(h:Tot (f a) S):Tot (joinC f a) S:=h
end
def tO{σ ρ:Type}{f:(σ->A3 ρ)->σ->A3 ρ}(I:σ->Prop)(μ:σ->Nat){Q:ρ->Prop}{s:σ}(h0:I s)(hμ:μ s<2^70)(step:∀(r:σ->A3 ρ)(s:σ),I s->(∀s',I s'->μ s'<μ s->Tot (r s') Q)->Tot (f r s) Q):Tot (d9 FU f s) Q:=by
 have key:∀(k:Nat)(s:σ),I s->μ s<k->Tot (d9 k f s) Q:=by intro k;induction k with|zero=>omega|succ k ih=>intro s hI hk;exact step (d9 k f) s hI λs' h1 h2=>ih s' h1 (by omega)
 exact key FU s h0 (by unfold FU;omega)
def a6l{s:A4}{i:Int}(h0:0<=i)(h1:i<(s.size:Int)):Tot (b3c s i) λb=>0<=b/\b<=255:=by
 unfold b3c;rw[if_pos h0];have hlt:i.toNat<s.size:=by omega
 rw[getElem?_pos s i.toNat hlt];refine⟨_,rfl,?_⟩;have:=(s[i.toNat]'hlt).toNat_lt;grind
def a5a{s:A4}{a b:Int}(h0:0<=a)(h1:a<=b)(h2:b<=(s.size:Int)):Tot (c3u s a b) λr=>(r.size:Int)=b-a:=by unfold c3u;rw[if_pos ⟨h0,h1,h2⟩];refine⟨_,rfl,?_⟩;show((s.extract a.toNat b.toNat).size:Int)=b-a;rw[ByteArray.size_extract];omega
def d6{a b:A4}(h:a.size+b.size<=9223372036854775807):Tot (a7f a b) λr=>r.size=a.size+b.size:=by unfold a7f;rw[if_pos h];exact⟨_,rfl,ByteArray.size_append⟩
def c6{α:Type}{l:O α}{i:Int}(h0:0<=i)(h1:i<(l.length:Int)):Tot (c7 l i) λx=>x∈l:=by
 unfold c7;rw[if_pos h0];have hlt:i.toNat<l.length:=by omega
 rw[qG hlt];exact⟨_,rfl,qV hlt⟩
def b24{α:Type}{k:Nat}{l x:O α}(h:(l.length+x.length)*k<=140737488355328):Tot (a4n k l x) λr=>r=l++x:=⟨_,p6 h,rfl⟩
def a3p{a b:Int}(h0:0<=a)(hb:0<b):Tot (b8t a b) λr=>r=a%b/\0<=r/\r<b/\r<=a:=by
 rw[d04 (by omega),c9f h0];have h1:=Int.emod_nonneg a (show b≠0 by omega);have h2:=Int.emod_lt_of_pos a hb;have h3:a%b<=a:=by have:=Int.emod_add_mul_ediv a b;have h5:0<=b*(a/b):=Int.mul_nonneg (by omega) (Int.ediv_nonneg h0 (by omega));omega
 exact⟨_,rfl,rfl,h1,h2,h3⟩
def a7t{a b:Int}(h0:0<=a)(h1:a<=9223372036854775807)(hb:0<b):Tot (c2t a b) λr=>r=a/b/\0<=r/\r<=a:=by rw[e9a (by omega),c7w h0];have g1:=Int.ediv_nonneg h0 (show 0<=b by omega);have g2:a/b<=a:=Int.ediv_le_self b h0;rw[e9 (by omega) (by omega)];exact⟨_,rfl,rfl,g1,g2⟩
def a42{x:Int}(h0:0<=x)(h1:x<=4611686018427387904):i64 (x+1)=x+1:=e9 (by omega) (by omega)
def a1i{a n:Int}(hn:0<n)(h1:n<=9223372036854775807):Tot (b7 a n) λr=>0<=r/\r<n:=by
 unfold b7;rw[d04 (by omega),qA];have h2:=Int.tmod_lt_of_pos a hn;have h3:-n<a.tmod n:=Int.lt_tmod_of_pos a hn;refine tD (λh=>?_) λh=>?_;.simp at h;rw[e9 (by omega) (by omega)];exact tC (by omega)
 .simp at h;exact tC (by omega)
def a0t(l:O Int)(i:Int)(hl:l.length<=9223372036854775807):Tot (c5 l i) λ_=>True:=by
 refine tD (λh=>tC trivial) λh=>?_;have hp:0<l.length:=by grind
 refine tA (a1i (by omega) (by omega)) λv hv=>?_;exact tA (c6 (by omega) (by omega)) λx _=>tC trivial
def b01{n:Int}(h0:0<=n)(h1:n<=9999999):Tot (i8 n) λr=>1<=r.size/\r.size<=8:=by
 have hs:a6h.size=10:=by decide
 refine tO (I:=λv:Int×A4=>0<=v.1/\((v.1<=9/\v.2.size<=6)\/(v.1<=99/\v.2.size<=5)\/(v.1<=999/\v.2.size<=4)\/(v.1<=9999/\v.2.size<=3)\/(v.1<=99999/\v.2.size<=2)\/(v.1<=999999/\v.2.size<=1)\/(v.1<=9999999/\v.2.size<=0))) (μ:=λv=>v.1.toNat) (s:=(n,a3j)) ⟨h0,.inr (.inr (.inr (.inr (.inr (.inr ⟨h1,(by decide:a3j.size<=0)⟩)))))⟩ (by omega) ?_;intro r v hI ih;obtain⟨g1,g2⟩:=hI;refine tD (λh=>?_) λh=>?_
 .simp at h;refine tA (a3p g1 (by omega)) λa ha=>?_;refine tA (a3p g1 (by omega)) λb hb=>?_;have hab:a=b:=by omega
  rw[a42 (by omega) (by omega)];refine tA (a5a (by omega) (by omega) (by omega)) λc hc=>?_;refine tA (d6 (by omega)) λd hd=>?_;refine tA (a7t g1 (by omega) (by omega)) λe he=>?_;refine ih (e,d) ⟨he.2.1,?_⟩ (by omega);show(e<=9/\d.size<=6)\/(e<=99/\d.size<=5)\/(e<=999/\d.size<=4)\/(e<=9999/\d.size<=3)\/(e<=99999/\d.size<=2)\/(e<=999999/\d.size<=1)\/(e<=9999999/\d.size<=0);omega
 .simp at h;rw[a42 (by omega) (by omega)];refine tA (a5a (by omega) (by omega) (by omega)) λc hc=>?_;exact tA (d6 (by omega)) λd hd=>tC (by omega)
def e0e{n:Int}(h0:0<=n)(h1:n<=999999):Tot (a01 n) λr=>r.size<=25:=by
 have hs:b1i.size=1:=by decide
 refine tA (a7t h0 (by omega) (by omega)) λa ha=>?_;refine tA (b01 (by omega) (by omega)) λb hb=>?_;refine tA (d6 (by omega)) λc hc=>?_;refine tA (a7t h0 (by omega) (by omega)) λd hd=>?_;refine tA (a3p (by omega) (by omega)) λe he=>?_;refine tA (b01 (by omega) (by omega)) λg hg=>?_;refine tA (d6 (by omega)) λi hi=>?_;refine tA (a3p h0 (by omega)) λj hj=>?_;refine tA (b01 (by omega) (by omega)) λk hk=>?_;exact tA (d6 (by omega)) λl hl=>tC (by omega)
def c2e{x:Int}(h0:0<=x)(h1:x<=9999999):Tot (i8 (i64 x)) λr=>1<=r.size/\r.size<=8:=by rw[e9 (by omega) (by omega)];exact b01 h0 h1
def c1j{x:Int}(h0:0<=x)(h1:x<=999999):Tot (a01 (i64 x)) λr=>r.size<=25:=by rw[e9 (by omega) (by omega)];exact e0e h0 h1
def b7s{a b:Int}(hb:b≠0):Tot (c2t a b) λ_=>True:=⟨_,e9a hb,trivial⟩
def b4f{a b:Int}(hb:b≠0):Tot (b8t a b) λ_=>True:=⟨_,d04 hb,trivial⟩
def h2f(b:Int):Bool:=decide (b>=97)&&decide (b<=122)
def h2u(b:Int):Bool:=decide (b>=48)&&decide (b<=57)
def d0j(b:Int):a3q b=some (h2f b):=by unfold a3q h2f;grind
def c7p(b:Int):a30 b=some (h2u b):=by unfold a30 h2u;grind
def f3l{s:A4}(hs:s.size<=8000){a:Int}(h0:0<=a)(h1:a<=(s.size:Int)):Tot (b16 s a) λr=>a<=r/\r<=(s.size:Int):=by
 refine tO (I:=λv:Int×Bool=>a<=v.1/\v.1<=(s.size:Int)) (μ:=λv=>((s.size:Int)-v.1).toNat) ⟨Int.le_refl _,h1⟩ (by omega) ?_;intro r v hI ih;obtain⟨g1,g2⟩:=hI;have nxt:v.1<(s.size:Int)->∀b:Bool,Tot (r (i64 (v.1+1),b)) λr=>a<=r/\r<=(s.size:Int):=λh b=>by rw[a42 (by omega) (by omega)];exact ih (v.1+1,b) ⟨by omega,by omega⟩ (by omega)
 refine tD (λh=>?_) λh=>tC ⟨g1,g2⟩;simp at h;refine tA (a6l (by omega) h) λb hb=>?_;refine tD (λ_=>nxt h _) λ_=>tD (λ_=>nxt h _) λ_=>?_;simp only[o4,qA];exact tD (λ_=>tC ⟨g1,g2⟩) λ_=>nxt h _
def e86{s:A4}(hs:s.size<=8000){a:Int}(h0:0<=a)(h1:a<(s.size:Int)){c:Int}(hc:b3c s a=some c)(hld:(h2f c||h2u c)=true)(dot:Bool):Tot (a9f s a dot) λr=>1<=r/\a+r<=(s.size:Int):=by
 refine tO (I:=λv:Int=>0<=v/\a+v<=(s.size:Int)) (μ:=λv=>((s.size:Int)-a-v).toNat) ⟨Int.le_refl _,by omega⟩ (by omega) ?_;intro r v hI ih;unfold b7b;have e0:i64 (a+v)=a+v:=e9 (by omega) (by omega);rw[e0];have hgo:a+v<(s.size:Int)->Tot (r (i64 (v+1))) λr=>1<=r/\a+r<=(s.size:Int):=λh=>by rw[a42 (by omega) (by omega)];exact ih (v+1) ⟨by omega,by omega⟩ (by omega)
 by_cases hlt:a+v<(s.size:Int)
 .obtain⟨b,hb,_⟩:=a6l (s:=s) (i:=a+v) (by omega) hlt;rw[if_pos (by simpa using hlt)];simp only[hb,qA,d0j,c7p,y3,o4];refine tD (λ_=>hgo hlt) λhn=>tC ⟨?_,by omega⟩;by_cases hv:v=0;.subst hv;rw[Int.add_zero,hc]at hb;cases hb;exfalso;apply hn;simp only[Bool.or_eq_true]at hld⊢;rcases hld with hld|hld<;>simp[hld]
  omega
 .rw[if_neg (by simpa using hlt),qA,if_neg (by simp)];refine tC ⟨?_,by omega⟩;omega
def d7a{s:A4}(hs:s.size<=8000):Tot (a6z s) λr=>r.2.2.2=true->r.1.size<=9/\r.2.1.size<=4:=by
 have fin:∀q:Int×A4×A4,q.2.1.size<=8000->q.2.2.size<=4->Tot (a6o q) λr=>r.2.2.2=true->r.1.size<=9/\r.2.1.size<=4:=by
  intro q hq1 hq2;have e1:i64 ((q.2.1.size:Int)+(q.2.2.size:Int))=(q.2.1.size:Int)+(q.2.2.size:Int):=e9 (by omega) (by omega);refine tO (I:=λv:Int=>0<=v) (μ:=λv=>((q.2.1.size:Int)+(q.2.2.size:Int)-v).toNat) (Int.le_refl _) (by omega) ?_;intro r v g1 ih;unfold b5u;refine tD (λh=>?_) λh=>?_;.simp at h;refine tA (d6 (by omega)) λc hc=>?_;refine tA (a6l g1 (by omega)) λb _=>?_;rw[c7p,qA];refine tD (λ_=>tC λh=>by cases h) λ_=>?_;rw[a42 (by omega) (by omega)];exact ih (v+1) (by omega) (by omega)
  .simp only[y3,qA];by_cases hz:(q.2.1.size:Int)<1;.refine tA (Q:=λb=>b=true) (tD (λ_=>tC rfl) λhn=>absurd (by simpa using Or.inl hz) hn) λb hb=>?_;rw[if_pos hb];exact tC λh=>by cases h
   .by_cases hg:(q.2.1.size:Int)>9;.refine tA (Q:=λb=>b=true) (tD (λ_=>tC rfl) λhn=>absurd (by simpa using Or.inr hg) hn) λb hb=>?_;rw[if_pos hb];exact tC λh=>by cases h
    .refine tA (Q:=λb=>True) (tD (λ_=>tC trivial) λhn=>?_) λb _=>?_;.refine tA (Q:=λ_=>True) (tD (λ_=>tA (a6l (by omega) (by omega)) λ_ _=>tC trivial) λ_=>tC trivial) λ_ _=>tC trivial
     .exact tD (λ_=>tC λh=>by cases h) λ_=>tC λ_=>⟨by show q.2.1.size<=9;omega,hq2⟩
 have j1:∀q:A4×Int,q.1.size<=8000->Tot (a45 q) λr=>r.2.2.2=true->r.1.size<=9/\r.2.1.size<=4:=by
  intro q hq;unfold a45;have e1:i64 ((q.1.size:Int)-1)=(q.1.size:Int)-1:=e9 (by omega) (by omega);rw[e1];refine tO (I:=λv:Int×Int=>-1<=v.2/\v.2<(q.1.size:Int)/\0<=v.1/\v.1<=(q.1.size:Int)) (μ:=λv=>(v.2+1).toNat) (s:=((q.1.size:Int),(q.1.size:Int)-1)) ⟨by omega,by omega,by omega,Int.le_refl _⟩ (by omega) ?_;intro r v hI ih;obtain⟨g1,g2,g3,g4⟩:=hI;refine tD (λh=>?_) λh=>?_
  .simp at h;have e2:i64 (v.2-1)=v.2-1:=e9 (by omega) (by omega);rw[e2];refine tA (a6l h g2) λb _=>tD (λ_=>?_) λ_=>?_;.exact ih (v.2,v.2-1) ⟨by omega,by omega,h,by omega⟩ (by omega)
   .exact ih (v.1,v.2-1) ⟨by omega,by omega,g3,g4⟩ (by omega)
  .refine tA (a5a (by omega) g3 g4) λa ha=>tD (λh2=>?_) λh2=>fin _ (by show a.size<=_;omega) (by show a3j.size<=4;decide);simp at h2;rw[a42 (by omega) (by omega)];refine tA (a5a (by omega) (by omega) (by omega)) λb hb=>?_;simp only[y3,qA];refine tD (λ_=>tC λh=>by cases h) λh3=>fin _ (by show a.size<=_;omega) ?_;simp at h3;show b.size<=4;omega
 have last:∀c:Int,0<(s.size:Int)->Tot (b3c s (i64 ((s.size:Int)-1))) λb=>0<=b/\b<=255:=λc h=>by rw[e9 (by omega) (by omega)];exact a6l (by omega) (by omega)
 have cut:0<(s.size:Int)->Tot (c3u s 0 (i64 ((s.size:Int)-1))) λr=>(r.size:Int)=(s.size:Int)-1-0:=λh=>by rw[e9 (by omega) (by omega)];exact a5a (by omega) (by omega) (by omega)
 refine tA (Q:=λb=>b=true->0<(s.size:Int)) (tD (λh=>?_) λ_=>tC λh=>by grind) λb hb=>?_;.simp at h;exact tA (last 0 (by omega)) λ_ _=>tC λ_=>by omega
 refine tD (λh=>?_) λ_=>?_;.exact tA (cut (hb h)) λc hc=>j1 _ (by show c.size<=8000;omega)
 refine tA (Q:=λb=>b=true->0<(s.size:Int)) (tD (λh=>?_) λ_=>tC λh=>by cases h) λb hb=>?_;.simp at h;exact tA (last 0 (by omega)) λ_ _=>tC λ_=>by omega
 refine tD (λh=>?_) λ_=>j1 _ hs;exact tA (cut (hb h)) λc hc=>j1 _ (by show c.size<=8000;omega)
def c5n{s:A4}(hs:s.size<=8000):Tot (a4m s) λr=>True:=by refine tO (I:=λv:Int×Int=>0<=v.2) (μ:=λv=>((s.size:Int)-v.2).toNat) (Int.le_refl _) (by omega) ?_;intro r v g1 ih;refine tD (λh=>?_) λ_=>tC trivial;simp at h;obtain⟨b,hb,_⟩:=a6l (s:=s) g1 h;simp only[hb,qA,y3];refine tD (λ_=>tC trivial) λ_=>?_;rw[a42 (by omega) (by omega)];exact ih (_,v.2+1) (by omega) (by omega)
def f1f(a:Int):Tot (b18 a) λ_=>True:=by have h:∀k:Int,k≠0->Tot (b8t a k) λ_=>True:=λk hk=>⟨_,d04 hk,trivial⟩;refine tA (h 4 (by decide)) λb _=>?_;refine tA (Q:=λ_=>True) (tD (λ_=>?_) λ_=>tC trivial) λ_ _=>tC trivial;refine tA (h 100 (by decide)) λc _=>?_;exact tA (Q:=λ_=>True) (tD (λ_=>tC trivial) λ_=>tA (h 400 (by decide)) λ_ _=>tC trivial) λ_ _=>tC trivial
def c93(a b:Int):Tot (a6b a b) λr=>True:=by refine tD (λ_=>tA (f1f a) λ_ _=>tD (λ_=>tC trivial) λ_=>tC trivial) λ_=>?_;repeat' first|exact tC trivial|(refine tD (λ_=>?_) λ_=>?_)
def e4x(a:Int)(h0:a<=100000):Tot (a9y a) λr=>True:=by refine tO (I:=λv:Int×Int=>0<=v.2) (μ:=λv=>(a-v.2).toNat) (Int.le_refl _) (by omega) ?_;intro r v g1 ih;refine tD (λh=>?_) λ_=>tC trivial;simp at h;refine tA (a7t g1 (by omega) (by omega)) λ_ _=>tA (a3p g1 (by omega)) λ_ _=>tA (c93 _ _) λ_ _=>?_;rw[a42 (by omega) (by omega)];exact ih (_,v.2+1) (by omega) (by omega)
def f5c(a b c:Int):Tot (b22 a b c) λ_=>True:=by
 unfold b22;obtain⟨l,hl,_⟩:=c93 a b;simp only[hl,qA,y3];refine tD (λ_=>tC trivial) λh=>?_;simp at h;have e1:i64 ((i64 ((i64 ((i64 (a-1900))*12))+b))-1)=(a-1900)*12+b-1:=by rw[e9 (n:=a-1900) (by omega) (by omega),e9 (n:=(a-1900)*12) (by omega) (by omega),e9 (n:=(a-1900)*12+b) (by omega) (by omega),e9 (by omega) (by omega)]
 exact tA (e4x _ (by omega)) λ_ _=>tC trivial
def c4m{s:A4}(hs:s.size<=8000):Tot (a47 s) λ_=>True:=by
 unfold a47;by_cases h10:s.size=10;.obtain⟨b,hb,_⟩:=a6l (s:=s) (i:=4) (by omega) (by omega);obtain⟨c,hc,_⟩:=a6l (s:=s) (i:=7) (by omega) (by omega);simp only[hb,hc,qA,y3];refine tD (λ_=>tC trivial) λ_=>?_;refine tA (a5a (s:=s) (a:=0) (b:=4) (by omega) (by omega) (by omega)) λd hd=>tA (c5n (by omega)) λe _=>?_;refine tA (a5a (s:=s) (a:=5) (b:=7) (by omega) (by omega) (by omega)) λf hf=>tA (c5n (by omega)) λg _=>?_;refine tA (a5a (s:=s) (a:=8) (b:=s.size) (by omega) (by omega) (by omega)) λh hh=>tA (c5n (by omega)) λi _=>?_;refine tD (λ_=>tC trivial) λ_=>?_;exact tA (f5c _ _ _) λ_ _=>tC trivial
 .have h1:(((s.size:Int)!=10)=true):=by grind
  rw[if_pos h1,qA,if_pos rfl,qA,if_pos rfl];exact tC trivial
def f8n{s:A4}(hs:s.size<=8000){a:Int}(h0:0<=a)(h1:a<(s.size:Int)):Tot (b1a s a) λr=>0<=r/\a+r<=(s.size:Int):=by
 have j:Tot (a7w (s,a)) λr=>0<=r/\a+r<=(s.size:Int):=by refine tA (a6l h0 h1) λb _=>?_;repeat' first|(refine tD (λ_=>?_) λ_=>?_)|exact tC ⟨by omega,by omega⟩
 unfold b1a;have e1:i64 (a+1)=a+1:=e9 (by omega) (by omega);have e2:i64 (a+2)=a+2:=e9 (by omega) (by omega);refine tD (λh=>?_) λ_=>j;simp at h;refine tA (a5a h0 (by omega) (by omega)) λc _=>?_;simp only[y3,qA];exact tD (λ_=>tC ⟨by omega,by omega⟩) λ_=>j
def TG(t:Token):Prop:=1<=t.Text.size/\t.Text.size<=8000
def f8o{s:A4}(hs:s.size<=8000){a:Int}(h0:0<=a)(h1:a<=(s.size:Int)):Tot (b15 s a) λr=>(r.2.2!=0)=true\/(r.1.Kind==0)=true\/(TG r.1/\a<r.2.1/\r.2.1<=(s.size:Int)):=by
 have j:∀(p:Int)(t:Token)(k n:Int)(ok:Bool),a<=p->(ok=true->1<=n/\p+n<=(s.size:Int))->Tot (a1o (s,p,t,k,n,ok)) λr=>(r.2.2!=0)=true\/(r.1.Kind==0)=true\/(TG r.1/\a<r.2.1/\r.2.1<=(s.size:Int)):=by
  intro p t k n ok hp hn;refine tD (λh=>tC (.inl rfl)) λh=>?_;simp at h;obtain⟨g1,g2⟩:=hn h;have e1:i64 (p+n)=p+n:=e9 (by omega) (by omega);simp only[e1];refine tA (a5a (by omega) (by omega) (by omega)) λc hc=>tC (.inr (.inr ⟨⟨?_,?_⟩,?_,?_⟩));.grind
  .grind
  .grind
  omega
 unfold b15;have hc:(decide (a<0)||decide (a>(s.size:Int)))=false:=by simp;omega
 rw[y3,qA,hc,if_neg (by simp)];refine tA (f3l hs h0 h1) λp hp=>?_;refine tD (λ_=>tC (.inr (.inl rfl))) λhne=>?_;have hlt:p<(s.size:Int):=by
  have:p≠(s.size:Int):=by simpa using hne
  omega
 obtain⟨b,hb,_⟩:=a6l (s:=s) (i:=p) (by omega) hlt;simp only[hb,qA,d0j,c7p];refine tD (λhl=>?_) λhl=>tD (λhd=>?_) λhd=>tD (λh=>?_) λh=>?_;.refine tA (e86 hs (by omega) hlt hb (by rw[hl];rfl) false) λn hn=>?_;exact tJ (j _ _ _ _ _ hp.1 λ_=>hn)
 .refine tA (e86 hs (by omega) hlt hb (by rw[hd];simp) true) λn hn=>?_;have e1:i64 (p+n)=p+n:=e9 (by omega) (by omega);refine tA (a5a (by omega) (by omega) (by omega)) λc hc=>?_;refine tA (d7a (by omega)) λq _=>?_;exact tJ (j _ _ _ _ _ hp.1 λ_=>hn)
 .have e0:i64 ((s.size:Int)-p)=(s.size:Int)-p:=e9 (by omega) (by omega);refine tD (λh=>?_) λh=>?_;.simp at h;have e1:i64 (p+1)=p+1:=e9 (by omega) (by omega);have e2:i64 (p+11)=p+11:=e9 (by omega) (by omega);refine tA (a5a (by omega) (by omega) (by omega)) λc hc=>tA (c4m (by omega)) λd _=>?_;exact tJ (j _ _ _ _ _ hp.1 λ_=>⟨by omega,by omega⟩)
  .exact tJ (j _ _ _ _ _ hp.1 λhh=>by simp at hh;omega)
 .refine tA (f8n hs (by omega) hlt) λn hn=>?_;exact tJ (j _ _ _ _ _ hp.1 λhh=>by simp at hh;omega)
def g63(s:A4):Tot (b25 s) λr=>(∀t∈r.1,TG t)/\r.1.length<=8000/\((r.2.2!=0)=true\/s.size<=8000):=by
 refine tD (λ_=>tC ⟨(λt ht=>by grind),by simp,.inl rfl⟩) λh=>?_;have hs:s.size<=8000:=by grind
 refine tO (I:=λv:O Token×Int=>0<=v.2/\v.2<=(s.size:Int)/\(v.1.length:Int)<=v.2/\∀t∈v.1,TG t) (μ:=λv=>((s.size:Int)-v.2).toNat) (s:=([],0)) ⟨Int.le_refl _,by omega,by simp,λt ht=>by grind⟩ (by omega) ?_;intro r v hI ih;obtain⟨g1,g2,g3,g4⟩:=hI;refine tA (f8o hs g1 g2) λq hq=>?_;refine tD (λh=>tC ⟨(λt ht=>by cases ht),by simp,.inl h⟩) λhn=>tD (λh=>tC ⟨g4,by show v.1.length<=8000;omega,.inr hs⟩) λhk=>?_;rcases hq with hq|hq|⟨q1,q2,q3⟩;.exact absurd hq hn
 .exact absurd hq hk
 .refine tA (b24 (by simp;omega)) λl hl=>?_;subst hl;refine ih (v.1++[q.1],q.2.1) ⟨by omega,q3,by simp;omega,λt ht=>?_⟩ (by omega);rcases qK.1 ht with ht|ht;.exact g4 t ht
  .rw[qF]at ht;rw[ht];omega
def RI(r:rQ):Prop:=0<=r.at_/\r.at_<=(r.l.length:Int)/\r.l.length<=8000/\∀t∈r.l,TG t
def RS(r q:rQ):Prop:=q.l=r.l/\r.at_<=q.at_/\q.at_<=(r.l.length:Int)/\(r.bad=true->q.bad=true)
def RS.ri{r q:rQ}(h:RI r)(hs:RS r q):RI q:=by obtain⟨h1,h2,h3,h4⟩:=h;obtain⟨e,g1,g2,_⟩:=hs;exact⟨by omega,by simp_all,by simp_all,by simp_all⟩
def RS.refl{r:rQ}(h:RI r):RS r r:=⟨rfl,Int.le_refl _,h.2.1,id⟩
def RS.trans{r q s:rQ}(h:RS r q)(g:RS q s):RS r s:=by obtain⟨e,g1,g2,g3⟩:=h;obtain⟨e',g1',g2',g3'⟩:=g;exact⟨e'.trans e,by omega,by simp_all,λh=>g3' (g3 h)⟩
def RS.bad{r:rQ}(h:RI r):RS r ⟨r.l,r.at_,r.end_,true⟩:=⟨rfl,Int.le_refl _,h.2.1,λ_=>rfl⟩
def RS.next{r:rQ}(h:RI r)(hlt:r.at_<(r.l.length:Int)):i64 (r.at_+1)=r.at_+1/\RS r ⟨r.l,r.at_+1,r.end_,r.bad⟩:=by obtain⟨h1,h2,h3,h4⟩:=h;exact⟨a42 h1 (by omega),rfl,by grind,by grind,id⟩
def f2r{r:rQ}(h:RI r)(s:A4):Tot (u9 r s) λb=>b=true->r.bad=false/\r.at_<(r.l.length:Int):=by unfold u9;rw[o4,qA];refine tA (Q:=λb=>b=true->r.bad=false/\r.at_<(r.l.length:Int)) (tD (λhc=>?_) λ_=>tC λh=>by grind) λb hb=>tC hb;simp at hc;exact tA (c6 h.1 hc.2) λ_ _=>tC λ_=>hc
def c2i{r:rQ}(h:RI r)(k:Int):Tot (p8 r k) λb=>b=true->r.bad=false/\r.at_<(r.l.length:Int):=by unfold p8;rw[o4,qA];refine tA (Q:=λb=>b=true->r.bad=false/\r.at_<(r.l.length:Int)) (tD (λhc=>?_) λ_=>tC λh=>by grind) λb hb=>tC hb;simp at hc;exact tA (c6 h.1 hc.2) λ_ _=>tC λ_=>hc
def a9b{r:rQ}(h:RI r)(s:A4):Tot (d7 r s) λq=>RS r q.2/\(q.1=true->r.at_<q.2.at_)/\q.2.bad=r.bad/\(q.1=false->q.2=r):=by refine tA (f2r h s) λb hb=>tD (λhn=>tC ⟨RS.refl h,λh=>(by grind),rfl,λ_=>rfl⟩) λhn=>?_;simp at hn;obtain⟨e,hs⟩:=RS.next h (hb hn).2;rw[e];exact tC ⟨hs,λ_=>(by grind),rfl,λh=>by grind⟩
def a2p{r:rQ}(h:RI r)(s:A4):Tot (b9 r s) λq=>RS r q/\(r.at_<q.at_\/q.bad=true):=by refine tA (a9b h s) λq hq=>tD (λhn=>?_) λhn=>tC ⟨hq.1,.inl (hq.2.1 (by simp_all))⟩;unfold j8;exact tC ⟨hq.1.trans (RS.bad (hq.1.ri h)),.inr rfl⟩
def c5m(r:rQ):j8 r=some ⟨r.l,r.at_,r.end_,true⟩:=rfl
def e4k{s:A4}(hs:s.size<=8000):Tot (a99 s) λ_=>True:=by
 refine tO (I:=λv:Int=>0<=v) (μ:=λv=>((s.size:Int)-v).toNat) (Int.le_refl _) (by omega) ?_;intro r v g1 ih;refine tD (λh=>?_) λ_=>?_;.simp at h;obtain⟨b,hb,_⟩:=a6l (s:=s) g1 h;simp only[hb,qA,d0j,c7p,y3,o4];refine tD (λ_=>tC trivial) λ_=>?_;rw[a42 (by omega) (by omega)];exact ih (v+1) (by omega) (by omega)
 .rw[o4,qA];exact tC trivial
def d97(s:A4):Tot (a7o s) λ_=>True:=by repeat' first|exact tC trivial|(refine tD (λ_=>?_) λ_=>?_)
def c1t{s:A4}(hs:s.size<=8000):Tot (a2e s) λ_=>True:=by refine tA (e4k hs) λb _=>?_;exact tA (Q:=λ_=>True) (tD (λ_=>tA (d97 s) λ_ _=>tC trivial) λ_=>tC trivial) λ_ _=>tC trivial
def d50{r:rQ}(h:RI r):Tot (a0w r) λq=>RS r q.2/\q.1.size<=8000/\(r.at_<q.2.at_\/q.2.bad=true):=by
 refine tA (c2i h 1) λb hb=>?_;refine tA (Q:=λc=>c=false->r.at_<(r.l.length:Int)) (tD (λ_=>tC λh=>by grind) λhn=>?_) λc hc=>?_;.have hlt:=(hb (by simp_all)).2;obtain⟨t,ht,hm⟩:=c6 h.1 hlt;rw[ht,qA];exact tA (c1t (h.2.2.2 t hm).2) λ_ _=>tC λ_=>hlt
 .refine tD (λ_=>?_) λhn=>?_;.exact tC ⟨RS.bad h,(by show a3j.size<=8000;decide),.inr rfl⟩
  .have hlt:=hc (by simp_all);obtain⟨e,hs⟩:=RS.next h hlt;have h1:=h.1;have h3:=h.2.2.1;have e2:i64 (r.at_+1-1)=r.at_:=by rw[e9 (by omega) (by omega)];omega
   rw[e,e2];obtain⟨t,ht,hm⟩:=c6 h.1 hlt;rw[ht,qA];exact tC ⟨hs,(h.2.2.2 t hm).2,.inl (by grind)⟩
def c7c(a:Int):∃v,a43 a=some v/\0<=v/\v<=18446744073709551615/\(0<=a->a<=18446744073709551615->v=a):=by
 unfold a43;split;.rename_i h;simp at h;exact⟨_,rfl,(b51 _).1,(b51 _).2,λh0=>by omega⟩
 .exact⟨_,rfl,(b51 _).1,(b51 _).2,λh0 h1=>b83 h0 h1⟩
def e2f{a b:Int}(ha:0<=a)(hb:0<=b)(h:0<a+b)(hma:a<=18446744073709551615)(hm:b<=18446744073709551615):Tot (a9s a b) λg=>0<g/\g<=18446744073709551615:=by
 refine tO (I:=λv:Int×Int=>0<=v.1/\0<=v.2/\0<v.1+v.2/\v.1<=18446744073709551615/\v.2<=18446744073709551615) (μ:=λv=>v.2.toNat) ⟨ha,hb,h,hma,hm⟩ (by omega) ?_;intro r v hI ih;obtain⟨g1,g2,g3,g4,g5⟩:=hI;refine tD (λhc=>?_) λhc=>tC ⟨by simp at hc;omega,g4⟩;have hv:0<v.2:=by
  have:v.2≠0:=by simpa using hc
  omega
 refine tA (a3p g1 hv) λc hcc=>ih (v.2,c) ⟨g2,hcc.2.1,by omega,g5,by omega⟩ (by omega)
def e3p{lo d:Int}(h0:0<=lo)(h1:lo<=18446744073709551615)(hd:0<d)(hd1:d<=18446744073709551615):Tot (a3h ⟨0,lo⟩ d) λq=>0<=q.2/\q.2<d:=by
 unfold a3h;dsimp only;refine tA (a3p (Int.le_refl 0) hd) λz hz=>?_;have hz0:z=0:=by omega
 subst hz0;have hD:Tot (a8o 0 lo d) λq=>0<=q.2/\q.2<d:=by unfold a8o b9j b9t;rw[if_neg (by grind)];refine tJ ?_;rw[if_neg (by grind)];refine tJ ?_;dsimp only;refine tD (λ_=>?_) λhn=>absurd rfl hn;rw[if_neg (by omega),qA];exact tA (a3p h0 hd) λr hr=>tC ⟨hr.2.1,hr.2.2.1⟩
 refine tA hD λq hq=>?_;rw[if_neg (by omega),qA];exact tC hq
def c5a(a:Int){d:Int}(hd:0<d)(hd1:d<=100000):Tot (a3r a d) λ_=>True:=by unfold a3r;rw[if_neg (by grind)];obtain⟨x,hx,x0,x1,_⟩:=c7c a;obtain⟨y,hy,y0,y1,y2⟩:=c7c d;have hyd:=y2 (by omega) (by omega);subst hyd;rw[hx,hy,qA,qA];refine tA (Q:=λ_=>True) ?_ λ_ _=>tC trivial;refine tA (e3p x0 x1 hd (by omega)) λq hq=>?_;refine tA (e2f (a:=y) (b:=q.2) (by omega) hq.1 (by omega) (by omega) (by omega)) λg hg=>?_;refine tA (e3p x0 x1 hg.1 hg.2) λw _=>?_;rw[if_neg (by omega),qA];simp only[y3,qA];exact tD (λ_=>tC trivial) λ_=>tD (λ_=>tC trivial) λ_=>tC trivial
def c3k{s:A4}(hs:s.size<=8000):Tot (a2x s) λ_=>True:=by
 refine tA (d7a hs) λp hp=>tD (λ_=>tC trivial) λhn=>?_;obtain⟨p1,p2⟩:=hp (by simp_all);have e1:i64 ((p.1.size:Int)+(p.2.1.size:Int))=(p.1.size:Int)+(p.2.1.size:Int):=e9 (by omega) (by omega);refine tO (I:=λv:fQ×Int×Int×Int=>0<=v.2.2.2/\v.2.2.2<=(p.1.size:Int)+(p.2.1.size:Int)/\((v.2.2.2<=(p.1.size:Int)/\v.2.2.1=1)\/(v.2.2.2=(p.1.size:Int)+1/\v.2.2.1=10)\/(v.2.2.2=(p.1.size:Int)+2/\v.2.2.1=100)\/(v.2.2.2=(p.1.size:Int)+3/\v.2.2.1=1000)\/(v.2.2.2=(p.1.size:Int)+4/\v.2.2.1=10000))) (μ:=λv=>((p.1.size:Int)+(p.2.1.size:Int)-v.2.2.2).toNat) ⟨Int.le_refl _,by grind,.inl ⟨by simp_all,rfl⟩⟩ (by grind) ?_;intro r v hI ih;obtain⟨g1,g2,g3⟩:=hI;unfold b3f;refine tD (λh=>?_) λh=>?_
 .simp at h;refine tA (d6 (by omega)) λc hc=>tA (a6l g1 (by omega)) λb _=>?_;rw[a42 g1 (by omega)];refine tD (λh2=>?_) λh2=>?_;.simp at h2;have e2:i64 (v.2.2.1*10)=v.2.2.1*10:=e9 (by omega) (by omega);rw[e2];exact ih (_,_,v.2.2.1*10,v.2.2.2+1) ⟨by show 0<=v.2.2.2+1;omega,by show v.2.2.2+1<=_;omega,by show(v.2.2.2+1<=(p.1.size:Int)/\v.2.2.1*10=1)\/(v.2.2.2+1=(p.1.size:Int)+1/\v.2.2.1*10=10)\/(v.2.2.2+1=(p.1.size:Int)+2/\v.2.2.1*10=100)\/(v.2.2.2+1=(p.1.size:Int)+3/\v.2.2.1*10=1000)\/(v.2.2.2+1=(p.1.size:Int)+4/\v.2.2.1*10=10000);omega⟩ (by show((p.1.size:Int)+(p.2.1.size:Int)-(v.2.2.2+1)).toNat<((p.1.size:Int)+(p.2.1.size:Int)-v.2.2.2).toNat;omega)
  .simp at h2;exact ih (_,_,v.2.2.1,v.2.2.2+1) ⟨by show 0<=v.2.2.2+1;omega,by show v.2.2.2+1<=_;omega,by show(v.2.2.2+1<=(p.1.size:Int)/\v.2.2.1=1)\/(v.2.2.2+1=(p.1.size:Int)+1/\v.2.2.1=10)\/(v.2.2.2+1=(p.1.size:Int)+2/\v.2.2.1=100)\/(v.2.2.2+1=(p.1.size:Int)+3/\v.2.2.1=1000)\/(v.2.2.2+1=(p.1.size:Int)+4/\v.2.2.1=10000);omega⟩ (by show((p.1.size:Int)+(p.2.1.size:Int)-(v.2.2.2+1)).toNat<((p.1.size:Int)+(p.2.1.size:Int)-v.2.2.2).toNat;omega)
 .exact tA (c5a _ (by omega) (by omega)) λ_ _=>tC trivial
def c0o{r:rQ}(h:RI r)(a b:Int):Tot (s7 r a b) λq=>RS r q.2/\(r.at_<q.2.at_\/q.2.bad=true):=by unfold s7;refine tA (c2i h 2) λc hc=>tD (λhp=>?_) λ_=>tC ⟨RS.bad h,.inr rfl⟩;have hlt:=(hc hp).2;refine tA (c6 h.1 hlt) λt ht=>tA (c3k (h.2.2.2 t ht).2) λd _=>?_;simp only[o4,qA];obtain⟨e,hs⟩:=RS.next h hlt;rw[e];exact tD (λ_=>tC ⟨hs,.inl (by grind)⟩) λ_=>tC ⟨RS.bad h,.inr rfl⟩
def f1o{s:A4}(h1:1<=s.size)(h2:s.size<=8000):Tot (b09 s) λ_=>True:=by exact tA (a5a (by omega) (by omega) (by omega)) λc hc=>tA (c4m (by omega)) λ_ _=>tC trivial
def e2o(s:A4):Tot (a8l s) λ_=>True:=by repeat' first|exact tC trivial|(refine tD (λ_=>?_) λ_=>?_)
def c9q(s:A4):Tot (a52 s) λ_=>True:=by repeat' first|exact tC trivial|(refine tD (λ_=>?_) λ_=>?_)
def e2u(s:A4):Tot (a8f s) λ_=>True:=by repeat' first|exact tC trivial|(refine tD (λ_=>?_) λ_=>?_)
def e2x{r:rQ}(h:RI r){a:Int}(h1:1<=a)(h3:a<=3):Tot (a0m r a) λq=>RS r q.2/\(r.at_<q.2.at_\/q.2.bad=true):=by unfold a0m;refine tA (c2i h 1) λc hc=>tD (λhp=>?_) λ_=>tC ⟨RS.bad h,.inr rfl⟩;have hlt:=(hc hp).2;refine tA (c6 h.1 hlt) λt ht=>tA (e2o _) λk _=>tA (c9q _) λb _=>tA (e2u _) λm _=>?_;have e1:i64 (a-1)=a-1:=e9 (by omega) (by omega);rw[e1];obtain⟨e,hs⟩:=RS.next h hlt;rw[e];obtain⟨x,hx,_⟩:=c6 (l:=[k,b,m]) (i:=a-1) (by omega) (by grind);rw[hx,qA,qA];exact tD (λ_=>tC ⟨hs,.inl (by grind)⟩) λ_=>tC ⟨RS.bad h,.inr rfl⟩
def e3t(a:Int):Tot (a8e a) λ_=>True:=by unfold a8e;simp only[o4,qA];repeat' first|exact tC trivial|(refine tD (λ_=>?_) λ_=>?_)
def f06(a:Int):Tot (b05 a) λ_=>True:=by repeat' first|exact tC trivial|exact tJ (j1 _)|(refine tD (λ_=>?_) λ_=>?_)
def e5q(a:Int):Tot (a96 a) λ_=>True:=by repeat' first|exact tC trivial|(refine tD (λ_=>?_) λ_=>?_)
def e4w{r:rQ}(h:RI r)(k:Int):Tot (a3a r k) λo=>(o==0)=true\/r.at_<(r.l.length:Int):=by
 refine tO (I:=λv:Int=>0<=v/\v<=19) (μ:=λv=>(19-v).toNat) ⟨by omega,by omega⟩ (by decide) ?_;intro rc v hI ih;obtain⟨g1,g2⟩:=hI;refine tD (λhv=>?_) λ_=>tC (.inl rfl);simp at hv;refine tA (f06 v) λl _=>?_;refine tA (Q:=λb=>b=true->r.at_<(r.l.length:Int)) (tD (λ_=>?_) λ_=>tC λh=>by grind) λb hb=>?_;.exact tA (e5q v) λs _=>tA (f2r h s) λb hb=>tC λhh=>(hb hh).2
 refine tD (λhp=>tC (.inr (hb hp))) λ_=>?_;rw[a42 g1 (by omega)];exact ih (v+1) ⟨by omega,by omega⟩ (by omega)
def EB:Nat->Expr->Prop|0,_=>False|n+1,e=>e.Args.length<=3/\e.Name.size<=8000/\∀a∈e.Args,EB n a
def EB.succ:∀{n:Nat}{e:Expr},EB n e->EB (n+1) e|0,_,h=>h.elim|n+1,e,h=>⟨h.1,h.2.1,λa ha=>(h.2.2 a ha).succ⟩
def EB.mono{n m:Nat}{e:Expr}(h:EB n e)(hm:n<=m):EB m e:=by induction hm with|refl=>omega|step _ ih=>exact ih.succ
def EB.leaf{n:Nat}{o:Int}{f:fQ}{d:Int}{s:A4}(hs:s.size<=8000):EB (n+1) ⟨o,f,d,s,[]⟩:=⟨by simp,hs,λa ha=>by grind⟩
def EB.one{n:Nat}{o:Int}{f:fQ}{d:Int}{a:Expr}(h:EB n a):EB (n+1) ⟨o,f,d,a3j,[a]⟩:=⟨by simp,(by decide:a3j.size<=8000),λx hx=>by simp_all⟩
def EB.two{n:Nat}{o:Int}{f:fQ}{d:Int}{a b:Expr}(h:EB n a)(hb:EB n b):EB (n+1) ⟨o,f,d,a3j,[a,b]⟩:=⟨by simp,(by decide:a3j.size<=8000),λx hx=>by grind⟩
def EB.three{n:Nat}{o:Int}{f:fQ}{d:Int}{a b c:Expr}(h:EB n a)(hb:EB n b)(hc:EB n c):EB (n+1) ⟨o,f,d,a3j,[a,b,c]⟩:=⟨by simp,(by decide:a3j.size<=8000),λx hx=>by grind⟩
def EQ(r:rQ)(q:Expr×rQ):Prop:=RS r q.2/\EB ((q.2.at_-r.at_).toNat+1) q.1
def left(r:rQ):Nat:=((r.l.length:Int)-r.at_).toNat
def b3m{r q:rQ}(h:RS r q):left q<=left r:=by unfold left;rw[h.1];have:=h.2.1;omega
def c1e{r q:rQ}(hr:RI r)(h:RS r q)(hlt:r.at_<q.at_):left q<left r:=by have h2:=h.2.2.1;unfold left;rw[h.1];omega
structure RB(R:eQ)(n:Nat):Prop where e:∀r k,RI r->0<=k->k<=7->10*left r+(9-k.toNat)<n->Tot (R.f_pensionref5_reader_expr r k) (EQ r)f:∀r,RI r->10*left r+1<n->Tot (R.f_pensionref5_reader_factor r) (EQ r)c:∀r k,RI r->r.at_<(r.l.length:Int)->10*left r<n->Tot (R.f_pensionref5_reader_call r k) (EQ r)
section
variable {R:eQ} {n:Nat}
def f0q(hR:RB R n){r:rQ}(hr:RI r)(hlt:r.at_<(r.l.length:Int))(k:Int)(hn:10*left r<n+1):Tot (a3d R r k) (EQ r):=by
 unfold a3d;obtain⟨e0,hs0⟩:=RS.next hr hlt;rw[e0];have hr0:=hs0.ri hr;have hl0:left ⟨r.l,r.at_+1,r.end_,r.bad⟩<left r:=c1e hr hs0 (by grind);refine tA (a2p hr0 _) λq1 h1=>?_;have hs1:=hs0.trans h1.1;have hl1:=b3m h1.1;have ha1:r.at_+1<=q1.at_:=h1.1.2.1;refine tA (hR.e q1 0 (hs1.ri hr) (by omega) (by omega) (by omega)) λx1 g1=>?_;have hs2:=hs1.trans g1.1;have hl2:=b3m g1.1;have ha2:=g1.1.2.1;refine tA (e3t k) λm _=>tD (λ_=>?_) λ_=>?_;.refine tA (a2p (hs2.ri hr) _) λq2 h2=>?_;have hs3:=hs2.trans h2.1;have hl3:=b3m h2.1;have ha3:=h2.1.2.1;have e5:c7 [x1.1] 0=some x1.1:=rfl;rw[e5,qA];refine tA (hR.e q2 0 (hs3.ri hr) (by omega) (by omega) (by omega)) λx2 g2=>?_;have hs4:=hs3.trans g2.1;have ha4:=g2.1.2.1;refine tA (a2p (hs4.ri hr) _) λq3 h3=>?_;have hs5:=hs4.trans h3.1;have ha5:=h3.1.2.1;exact tC ⟨hs5,(EB.two (g1.2.mono (by omega)) (g2.2.mono (by omega)):EB ((q3.at_-r.at_).toNat+1) _)⟩
 .refine tA (a2p (hs2.ri hr) _) λq2 h2=>?_;have ha3:=h2.1.2.1;exact tC ⟨hs2.trans h2.1,(EB.one (g1.2.mono (by omega)):EB ((q2.at_-r.at_).toNat+1) _)⟩
def e0w(hR:RB R n){r:rQ}(hr:RI r)(hn:10*left r+1<n+1):Tot (a2a R r) (EQ r):=by
 refine tA (c2i hr 2) λc hc=>tD (λhp=>?_) λ_=>?_;.have hlt:=(hc hp).2;refine tA (c6 hr.1 hlt) λt ht=>tA (c3k (hr.2.2.2 t ht).2) λd _=>?_;obtain⟨e,hs⟩:=RS.next hr hlt;rw[e];exact tC ⟨hs,EB.leaf (by decide)⟩
 refine tA (a9b hr _) λt1 h1=>tD (λhp=>?_) λhp=>?_;.have hl:=c1e hr h1.1 (h1.2.1 hp);have ha:=h1.2.1 hp;refine tA (hR.e t1.2 7 (h1.1.ri hr) (by omega) (by omega) (by omega)) λx g=>?_;have ha2:=g.1.2.1;exact tC ⟨h1.1.trans g.1,(EB.one (g.2.mono (by omega)):EB ((x.2.at_-r.at_).toNat+1) _)⟩
 have e1:t1.2=r:=h1.2.2.2 (by simp_all);rw[e1];refine tA (a9b hr _) λt2 h2=>tD (λhp=>?_) λhp=>?_;.have hl:=c1e hr h2.1 (h2.2.1 hp);have ha:=h2.2.1 hp;refine tA (hR.e t2.2 0 (h2.1.ri hr) (by omega) (by omega) (by omega)) λx g=>?_;have hs:=h2.1.trans g.1;refine tA (a2p (hs.ri hr) _) λq hq=>?_;have ha3:=hq.1.2.1;exact tC ⟨hs.trans hq.1,g.2.mono (by show _<=(q.at_-r.at_).toNat+1;omega)⟩
 have e2:t2.2=r:=h2.2.2.2 (by simp_all);rw[e2];refine tA (a9b hr _) λt3 h3=>tD (λhp=>?_) λhp=>?_;.refine tA (a2p (h3.1.ri hr) _) λq1 g1=>?_;have hs1:=h3.1.trans g1.1;refine tA (c0o (hs1.ri hr) 1 45) λq2 g2=>?_;have hs2:=hs1.trans g2.1;refine tA (a2p (hs2.ri hr) _) λq3 g3=>?_;exact tC ⟨hs2.trans g3.1,EB.leaf (by decide)⟩
 have e3:t3.2=r:=h3.2.2.2 (by simp_all);rw[e3];have cl:∀(s:A4)(k:Int)(o:A3 (Expr×rQ)),Tot o (EQ r)->Tot (Option.bind (u9 r s) λb=>if b=true then Option.bind (R.f_pensionref5_reader_call r k) λv=>some (v.1,v.2)else o) (EQ r):=by intro s k o ho;refine tA (f2r hr s) λb hb=>tD (λhp=>?_) λ_=>ho;exact tA (hR.c r k hr (hb hp).2 (by omega)) λv hv=>tC hv
 refine cl _ _ _ (cl _ _ _ (cl _ _ _ ?_));refine tA (d50 hr) λq hq=>tC ⟨hq.1,EB.leaf hq.2.1⟩
def e9x(hR:RB R n){r:rQ}(hr:RI r){k:Int}(h0:0<=k)(h7:k<=7)(hn:10*left r+(9-k.toNat)<n+1):Tot (a3b R r k) (EQ r):=by
 refine tD (λ_=>tC ⟨RS.refl hr,EB.leaf (by decide)⟩) λhbad=>?_;refine tD (λhk=>?_) λhk=>?_
 .simp at hk;refine tA (a9b hr _) λt ht=>tD (λhp=>?_) λhp=>?_;.have e1:t.2=r:=ht.2.2.2 (by simp_all);rw[e1];exact tA (hR.e r 1 hr (by omega) (by omega) (by omega)) λv hv=>tC hv
  .have hc:=ht.2.1 (by simp_all);have hl:=c1e hr ht.1 hc;refine tA (hR.e t.2 0 (ht.1.ri hr) (by omega) (by omega) (by omega)) λx1 g1=>?_;have hs1:=ht.1.trans g1.1;have hl1:=b3m g1.1;have ha1:=g1.1.2.1;refine tA (a2p (hs1.ri hr) _) λq1 w1=>?_;have hs2:=hs1.trans w1.1;have hl2:=b3m w1.1;have ha2:=w1.1.2.1;refine tA (hR.e q1 0 (hs2.ri hr) (by omega) (by omega) (by omega)) λx2 g2=>?_;have hs3:=hs2.trans g2.1;have hl3:=b3m g2.1;have ha3:=g2.1.2.1;refine tA (a2p (hs3.ri hr) _) λq2 w2=>?_;have hs4:=hs3.trans w2.1;have hl4:=b3m w2.1;have ha4:=w2.1.2.1;refine tA (hR.e q2 0 (hs4.ri hr) (by omega) (by omega) (by omega)) λx3 g3=>?_;have ha5:=g3.1.2.1;exact tC ⟨hs4.trans g3.1,(EB.three (g1.2.mono (by omega)) (g2.2.mono (by omega)) (g3.2.mono (by omega)):EB ((x3.2.at_-r.at_).toNat+1) _)⟩
 refine tD (λhk3=>?_) λ_=>?_
 .simp at hk3;refine tA (a9b hr _) λt ht=>tD (λhp=>?_) λhp=>?_;.have hc:=ht.2.1 hp;have hl:=c1e hr ht.1 hc;refine tA (hR.e t.2 3 (ht.1.ri hr) (by omega) (by omega) (by omega)) λx g=>?_;have ha:=g.1.2.1;exact tC ⟨ht.1.trans g.1,(EB.one (g.2.mono (by omega)):EB ((x.2.at_-r.at_).toNat+1) _)⟩
  .have e1:t.2=r:=ht.2.2.2 (by simp_all);rw[e1];exact tA (hR.e r 4 hr (by omega) (by omega) (by omega)) λv hv=>tC hv
 refine tD (λhk7=>?_) λhk7=>?_;.simp at hk7;exact tA (hR.f r hr (by omega)) λv hv=>tC hv
 have hk7:k≠7:=by simp_all
 have ek:i64 (k+1)=k+1:=a42 h0 (by omega);rw[ek];refine tA (hR.e r (k+1) hr (by omega) (by omega) (by omega)) λx g=>?_;refine tO (I:=λv:rQ×(O Expr)×Expr×Expr=>RS r v.1/\EB ((v.1.at_-r.at_).toNat+1) v.2.2.2) (μ:=λv=>left v.1) (s:=(x.2,[],(⟨0,(⟨0,0⟩:fQ),0,a3j,[]⟩:Expr),x.1)) g (by
  show left x.2<_;have:=b3m g.1;have h8:=hr.2.2.1;have h9:left r<=8000:=by unfold left;have:=hr.1;omega
  omega) ?_;intro rc v hI ih;obtain⟨g1,g2⟩:=hI;have hv:=g1.ri hr;have hlv:=b3m g1;refine tD (λ_=>?_) λ_=>tC ⟨g1,g2⟩;rw[ek];refine tA (e4w hv k) λo ho=>tD (λ_=>tC ⟨g1,g2⟩) λhno=>?_;have hlt:v.1.at_<(v.1.l.length:Int):=ho.resolve_left hno;obtain⟨e,hs⟩:=RS.next hv hlt;rw[e];have hs1:=g1.trans hs;have hl1:left ⟨v.1.l,v.1.at_+1,v.1.end_,v.1.bad⟩<left v.1:=c1e hv hs (by show v.1.at_<v.1.at_+1;omega);refine tA (hR.e _ (k+1) (hs1.ri hr) (by omega) (by omega) (by omega)) λy gy=>?_;have hs2:=hs1.trans gy.1;have ha:v.1.at_+1<=y.2.at_:=gy.1.2.1;have ha0:=g1.2.1;have hb:=gy.2;have hb:EB ((y.2.at_-(v.1.at_+1)).toNat+1) y.1:=hb;have hE:EB ((y.2.at_-r.at_).toNat+1) (⟨o,(⟨0,0⟩:fQ),0,a3j,[v.2.2.2,y.1]⟩:Expr):=EB.two (g2.mono (by omega)) (hb.mono (by omega));refine tD (λ_=>tC ⟨hs2,hE⟩) λ_=>?_;exact ih _ ⟨hs2,hE⟩ (by show left y.2<left v.1;have:=b3m gy.1;omega)
end
def c4a:∀n,RB (c8 n) n|0=>⟨λ_ _ _ _ _ h=>by omega,λ_ _ h=>by omega,λ_ _ _ _ h=>by omega⟩|n+1=>⟨λr k hr h0 h7 hn=>e9x (c4a n) hr h0 h7 hn,λr hr hn=>e0w (c4a n) hr hn,λr k hr hlt hn=>f0q (c4a n) hr hlt k hn⟩
def c7l{r:rQ}(hr:RI r):Tot (a0u r 0) λq=>RS r q.2/\EB 8001 q.1:=by
 have h8:=hr.2.2.1;have h0:=hr.1;have h9:left r<=8000:=by unfold left;omega
 refine((c4a FU).e r 0 hr (by omega) (by omega) (by unfold FU;omega)).mono λq hq=>⟨hq.1,hq.2.mono ?_⟩;have:=hq.1.2.2.1;omega
def LG(k:Int)(c:O Credit)(i:O Index)(l:O Let)(g:O Grant)(d:O Reduce):Prop:=(c.length:Int)<=k/\(i.length:Int)<=k/\(l.length:Int)<=k/\(g.length:Int)<=k/\(d.length:Int)<=k/\(∀x∈l,x.Name.size<=8000/\EB 8001 x.Body)/\(∀x∈g,EB 8001 x.If/\EB 8001 x.Pay)/\∀x∈d,EB 8001 x.By
def LG.up{k m:Int}{c:O Credit}{i:O Index}{l:O Let}{g:O Grant}{d:O Reduce}(h:LG k c i l g d)(hm:k<=m):LG m c i l g d:=by obtain⟨h1,h2,h3,h4,h5,r⟩:=h;exact⟨by omega,by omega,by omega,by omega,by omega,r⟩
def b4a{α:Type}{l:O α}{a x:α}(h:x∈l++[a]):x∈l\/x=a:=by simp_all
def CQ(r:rQ)(q:rQ×Version×(O Credit)×(O Index)×(O Let)×(O Grant)×(O Reduce)):Prop:=RS r q.1/\(r.at_<q.1.at_\/q.1.bad=true)/\LG q.1.at_ q.2.2.1 q.2.2.2.1 q.2.2.2.2.1 q.2.2.2.2.2.1 q.2.2.2.2.2.2
section
variable {r p:rQ} {c:O Credit} {i:O Index} {l:O Let} {g:O Grant} {d:O Reduce}
def d56(hr:RI r)(hs:RS r p):p.at_<=8000:=by have:=hs.2.2.1;have:=hr.2.2.1;omega
def b8u(hr:RI r)(hs:RS r p){k:Int}(hk:r.at_<=k)(hp:k<p.at_){v:Version}{c':O Credit}{i':O Index}{l':O Let}{g':O Grant}{d':O Reduce}(hL:LG (k+1) c' i' l' g' d')(s:A4):Tot (Option.bind (b9 p s) λq=>some (q,v,c',i',l',g',d')) (CQ r):=by
 refine tA (a2p (hs.ri hr) s) λq hq=>tC ⟨hs.trans hq.1,.inl ?_,hL.up ?_⟩;.have:=hq.1.2.1;grind
 .have:=hq.1.2.1;grind
def d7h(hr:RI r)(hs:RS r p)(hp:r.at_<p.at_)(hL:LG r.at_ c i l g d)(v:Version)(x:Credit):Tot (a1v (p,c,i,l,g,d,v,x)) (CQ r):=by have h8:=d56 hr hs;obtain⟨h1,h2,h3,h4,h5,hR⟩:=hL;refine tA (b24 (by simp;omega)) λa ha=>?_;exact b8u hr hs (Int.le_refl _) hp ⟨by simp_all,by grind,by omega,by omega,by omega,hR⟩ _
def d5i(hr:RI r)(hs:RS r p)(hp:r.at_<p.at_)(hL:LG r.at_ c i l g d)(v:Version)(x:Index):Tot (a1t (p,c,i,l,g,d,v,x)) (CQ r):=by have h8:=d56 hr hs;obtain⟨h1,h2,h3,h4,h5,hR⟩:=hL;refine tA (b24 (by simp;omega)) λa ha=>?_;exact b8u hr hs (Int.le_refl _) hp ⟨by grind,by simp_all,by omega,by omega,by omega,hR⟩ _
def c9w(hr:RI r)(hs:RS r p)(hp:r.at_<p.at_)(hL:LG r.at_ c i l g d)(v:Version)(x:Index):Tot (a0a (p,c,i,l,g,d,v,x)) (CQ r):=by refine tD (λ_=>?_) λ_=>tJ (d5i hr hs hp hL _ _);exact tJ (d5i hr (hs.trans (RS.bad (hs.ri hr))) hp hL _ _)
def e65(hr:RI r)(hL:LG r.at_ c i l g d)(v:Version):Tot (a39 r v c i l g d) (CQ r):=by
 refine tA (a9b hr _) λt1 h1=>tD (λhp=>?_) λhp=>?_;.have hc:=h1.2.1 hp;refine tA (e2x (h1.1.ri hr) (by omega) (by omega)) λq1 g1=>?_;have hs1:=h1.1.trans g1.1;have ha1:=g1.1.2.1;refine tA (a9b (hs1.ri hr) _) λt2 h2=>?_;have hs2:=hs1.trans h2.1;have ha2:=h2.1.2.1;refine tD (λ_=>?_) λ_=>tJ (d7h hr hs2 (by omega) hL _ _);refine tA (c0o (hs2.ri hr) _ _) λq2 g2=>?_;have ha3:=g2.1.2.1;exact tJ (d7h hr (hs2.trans g2.1) (by omega) hL _ _)
 have e1:t1.2=r:=h1.2.2.2 (by simp_all);rw[e1];refine tA (a9b hr _) λt2 h2=>tD (λhp=>?_) λhp=>?_;.have hc:=h2.2.1 hp;refine tA (c0o (h2.1.ri hr) _ _) λq1 g1=>?_;have hs1:=h2.1.trans g1.1;have ha1:=g1.1.2.1;have hr1:=hs1.ri hr;refine tA (c2i hr1 2) λb hb=>tD (λhp=>?_) λ_=>tJ (c9w hr hs1 (by omega) hL _ _);have hlt:=(hb hp).2;refine tA (c6 hr1.1 hlt) λx hx=>tA (c3k (hr1.2.2.2 x hx).2) λf _=>?_;simp only[o4,qA];refine tD (λ_=>?_) λ_=>tJ (c9w hr hs1 (by omega) hL _ _);obtain⟨e,hs⟩:=RS.next hr1 hlt;rw[e];exact tJ (c9w hr (hs1.trans hs) (by show r.at_<q1.2.at_+1;omega) hL _ _)
 have e2:t2.2=r:=h2.2.2.2 (by simp_all);rw[e2];refine tA (a9b hr _) λt3 h3=>tD (λhp=>?_) λhp=>?_;.have hc:=h3.2.1 hp;refine tA (d50 (h3.1.ri hr)) λq1 g1=>?_;have hs1:=h3.1.trans g1.1;have ha1:=g1.1.2.1;refine tA (a2p (hs1.ri hr) _) λq2 g2=>?_;have hs2:=hs1.trans g2.1;have ha2:=g2.1.2.1;refine tA (c7l (hs2.ri hr)) λq3 g3=>?_;have hs3:=hs2.trans g3.1;have ha3:=g3.1.2.1;obtain⟨k1,k2,k3,k4,k5,k6,k7,k8⟩:=hL;have h8:=d56 hr hs3;refine tA (b24 (by simp;omega)) λa ha=>?_;subst ha;exact b8u hr hs3 (Int.le_refl _) (by omega) ⟨by omega,by omega,by simp;omega,by omega,by omega,λx hx=>(b4a hx).elim (k6 x) λe=>by subst e;exact⟨g1.2.1,g3.2⟩,k7,k8⟩ _
 have e3:t3.2=r:=h3.2.2.2 (by simp_all);rw[e3];refine tA (a9b hr _) λt4 h4=>tD (λhp=>?_) λhp=>?_;.have hc:=h4.2.1 hp;refine tA (e2x (h4.1.ri hr) (by omega) (by omega)) λq1 g1=>?_;have hs1:=h4.1.trans g1.1;have ha1:=g1.1.2.1;refine tA (a2p (hs1.ri hr) _) λq2 g2=>?_;have hs2:=hs1.trans g2.1;have ha2:=g2.1.2.1;refine tA (c7l (hs2.ri hr)) λq3 g3=>?_;have hs3:=hs2.trans g3.1;have ha3:=g3.1.2.1;refine tA (a2p (hs3.ri hr) _) λq4 g4=>?_;have hs4:=hs3.trans g4.1;have ha4:=g4.1.2.1;refine tA (c7l (hs4.ri hr)) λq5 g5=>?_;have hs5:=hs4.trans g5.1;have ha5:=g5.1.2.1;obtain⟨k1,k2,k3,k4,k5,k6,k7,k8⟩:=hL;have h8:=d56 hr hs5;refine tA (b24 (by simp;omega)) λa ha=>?_;subst ha;exact b8u hr hs5 (Int.le_refl _) (by omega) ⟨by omega,by omega,by omega,by simp;omega,by omega,k6,λx hx=>(b4a hx).elim (k7 x) λe=>by subst e;exact⟨g3.2,g5.2⟩,k8⟩ _
 have e4:t4.2=r:=h4.2.2.2 (by simp_all);rw[e4];refine tA (a9b hr _) λt5 h5=>tD (λhp=>?_) λhp=>?_;.have hc:=h5.2.1 hp;refine tA (e2x (h5.1.ri hr) (by omega) (by omega)) λq1 g1=>?_;have hs1:=h5.1.trans g1.1;have ha1:=g1.1.2.1;refine tA (a2p (hs1.ri hr) _) λq2 g2=>?_;have hs2:=hs1.trans g2.1;have ha2:=g2.1.2.1;refine tA (c7l (hs2.ri hr)) λq3 g3=>?_;have hs3:=hs2.trans g3.1;have ha3:=g3.1.2.1;obtain⟨k1,k2,k3,k4,k5,k6,k7,k8⟩:=hL;have h8:=d56 hr hs3;refine tA (b24 (by simp;omega)) λa ha=>?_;subst ha;exact b8u hr hs3 (Int.le_refl _) (by omega) ⟨by omega,by omega,by omega,by omega,by simp;omega,k6,k7,λx hx=>(b4a hx).elim (k8 x) λe=>by subst e;exact g3.2⟩ _
 have e5:t5.2=r:=h5.2.2.2 (by simp_all);rw[e5,c5m,qA];have hsb:=RS.bad hr;refine tA (a2p (hsb.ri hr) _) λq hq=>tC ⟨hsb.trans hq.1,.inr (hq.1.2.2.2 rfl),hL.up ?_⟩;exact(hsb.trans hq.1).2.1
end
def VG(v:Version):Prop:=LG 8000 v.Credits v.Series v.Lets v.Grants v.Reduces
def e0y{r:rQ}(hr:RI r):Tot (a2o r) λq=>RS r q.2/\(r.at_<q.2.at_\/q.2.bad=true)/\VG q.1:=by
 have j:∀(p:rQ)(v w:Version),RS r p->(r.at_<p.at_\/p.bad=true)->Tot (a1l (p,[],[],[],[],[],v,[],[],[],[],[],w)) λq=>RS r q.2/\(r.at_<q.2.at_\/q.2.bad=true)/\VG q.1:=by
  intro p v w hs hpr;have tr:∀{x y:rQ},(r.at_<x.at_\/x.bad=true)->RS x y->(r.at_<y.at_\/y.bad=true):=λh hxy=>h.imp (λh=>by have:=hxy.2.1;omega) hxy.2.2.2;refine tA (a2p (hs.ri hr) _) λq1 g1=>?_;have hs1:=hs.trans g1.1;refine tA (a2p (hs1.ri hr) _) λq2 g2=>?_;have hs2:=hs1.trans g2.1;refine tA (e2x (hs2.ri hr) (by omega) (by omega)) λq3 g3=>?_;have hs3:=hs2.trans g3.1;refine tA (c0o (hs3.ri hr) _ _) λq4 g4=>?_;have hs4:=hs3.trans g4.1;refine tA (a2p (hs4.ri hr) _) λq5 g5=>?_;have hs5:=hs4.trans g5.1;have hp5:=tr (tr (tr (tr (tr hpr g1.1) g2.1) g3.1) g4.1) g5.1;have h0:=(hs5.ri hr).1;refine tO (σ:=rQ×(O Credit)×(O Index)×(O Let)×(O Grant)×(O Reduce)×Version×(O Credit)×(O Index)×(O Let)×(O Grant)×(O Reduce)×Version) (I:=λv=>RS r v.1/\(r.at_<v.1.at_\/v.1.bad=true)/\LG v.1.at_ v.2.2.2.2.2.2.2.1 v.2.2.2.2.2.2.2.2.1 v.2.2.2.2.2.2.2.2.2.1 v.2.2.2.2.2.2.2.2.2.2.1 v.2.2.2.2.2.2.2.2.2.2.2.1) (μ:=λv=>2*left v.1+(if v.1.bad=true then 0 else 1)) ⟨hs5,hp5,h0,h0,h0,h0,h0,(λx hx=>by cases hx),(λx hx=>by cases hx),λx hx=>by cases hx⟩ (by
    show 2*left q5+(if q5.bad=true then 0 else 1)<_;have h9:=b3m hs5;have h8:=hr.2.2.1;have h10:left r<=8000:=by unfold left;have:=hr.1;omega
    split<;>omega) ?_;intro rc v hI ih;obtain⟨i1,i2,i3⟩:=hI;have hv:=i1.ri hr;refine tD (λhb=>?_) λhb=>tC ⟨i1,i2,i3.up (d56 hr i1)⟩;have hb:v.1.bad=false:=by simpa using hb
  refine tA (a9b hv _) λt ht=>tD (λhp=>?_) λhp=>tC ⟨i1.trans ht.1,tr i2 ht.1,i3.up (d56 hr i1)⟩;have e1:t.2=v.1:=ht.2.2.2 (by simpa using hp);rw[e1];refine tA (e65 hv i3 _) λq hq=>?_;refine ih _ ⟨i1.trans hq.1,tr i2 hq.1,hq.2.2⟩ ?_;rw[hb];rcases hq.2.1with h|h;.have:=c1e hv hq.1 h;split<;>simp<;>omega
  .have:=b3m hq.1;rw[h];simp;omega
 refine tA (a2p hr _) λq1 g1=>?_;have hr1:=g1.1.ri hr;refine tA (c2i hr1 3) λb hb=>tD (λhp=>?_) λ_=>?_;.have hlt:=(hb hp).2;refine tA (c6 hr1.1 hlt) λt ht=>tA (f1o (hr1.2.2.2 t ht).1 (hr1.2.2.2 t ht).2) λy _=>?_;obtain⟨e,hs⟩:=RS.next hr1 hlt;rw[e];exact tJ (j _ _ _ (g1.1.trans hs) (.inl (by show r.at_<q1.at_+1;have:=g1.1.2.1;omega)))
 .exact tJ (j _ _ _ (g1.1.trans (RS.bad hr1)) (.inr rfl))
def d3a(a:Int):Tot (a6n a) λ_=>True:=by unfold a6n;rw[o4,qA];exact tC trivial
def c4z(a:Rounding):Tot (a3c a) λ_=>True:=by unfold a3c;simp only[o4,qA];exact tC trivial
def c5i(a b:Int):Tot (a3t a b) λ_=>True:=by refine tO (I:=λv:O A4×Int=>v.1.length=15/\0<=v.2) (μ:=λv=>(15-v.2).toNat) ⟨rfl,Int.le_refl _⟩ (by decide) ?_;intro r v hI ih;obtain⟨g1,g2⟩:=hI;unfold b53;rw[o4,qA];refine tD (λh=>?_) λ_=>tC trivial;simp at h;obtain⟨x,hx,_⟩:=c6 (l:=v.1) g2 h.1;simp only[hx,qA];refine tA (Q:=λ_=>True) (tD (λ_=>tA (e2o x) λ_ _=>tC trivial) λ_=>tC trivial) λp1 _=>?_;refine tA (Q:=λ_=>True) (tD (λ_=>tC trivial) λ_=>tA (Q:=λ_=>True) (tD (λ_=>tA (c9q x) λ_ _=>tC trivial) λ_=>tC trivial) λ_ _=>tC trivial) λp2 _=>?_;refine tA (Q:=λ_=>True) (tD (λ_=>tC trivial) λ_=>tA (Q:=λ_=>True) (tD (λ_=>tA (e2u x) λ_ _=>tC trivial) λ_=>tC trivial) λ_ _=>tC trivial) λp3 _=>?_;refine tD (λ_=>tC trivial) λ_=>?_;rw[a42 g2 (by omega)];exact ih (v.1,v.2+1) ⟨g1,by omega⟩ (by omega)
def b7i(f:fQ):Tot (a1h f) λb=>b=true->1<=f.Den/\f.Den<=1000000000/\-1000000000000000<=f.Num/\f.Num<=1000000000000000:=by unfold a1h;simp only[o4,qA];refine tA (Q:=λb=>b=true->1<=f.Den/\f.Den<=1000000000/\-1000000000000000<=f.Num/\f.Num<=1000000000000000) (tD (λh=>?_) λ_=>tC λh=>by grind) λb hb=>tC hb;simp at h;obtain⟨x,hx,x0,x1,_⟩:=c7c f.Num;rw[hx,qA,b83 (by omega) (by omega)];exact tA (e2f x0 (by omega) (by omega) x1 (by omega)) λ_ _=>tC λ_=>⟨by omega,by omega,by omega,by omega⟩
def e17{n:Int}(h0:0<=n)(h1:n<=1000000000000000):Tot (a5w n 1) λr=>(r.size:Int)<=n+1:=by
 have hs:a6h.size=10:=by decide
 refine tO (I:=λv:Int×A4=>0<=v.1/\v.1<=n/\v.1+(v.2.size:Int)<=n+1) (μ:=λv=>2*v.1.toNat+(1-v.2.size)) (s:=(n,a3j)) ⟨h0,Int.le_refl _,by rw[show a3j.size=0from rfl];omega⟩ (by omega) ?_;intro r v hI ih;obtain⟨g1,g2,g3⟩:=hI;unfold b4s;rw[y3,qA];refine tD (λh=>?_) λ_=>tC (by omega);simp at h;refine tA (a3p g1 (by omega)) λa ha=>tA (a3p g1 (by omega)) λb hb=>?_;have hab:a=b:=by omega
 rw[a42 (by omega) (by omega)];refine tA (a5a (by omega) (by omega) (by omega)) λc hc=>tA (d6 (by omega)) λd hd=>tA (a7t g1 (by omega) (by omega)) λe he=>?_;refine ih (e,d) ⟨he.2.1,by omega,by show e+(d.size:Int)<=n+1;omega⟩ (by show 2*e.toNat+(1-d.size)<2*v.1.toNat+(1-v.2.size);omega)
def c3m{n:Int}(h0:0<=n)(h1:n<=999999999):Tot (a2n ⟨n,1⟩) λr=>r.size<=1000000000:=by refine tA (b7i _) λb _=>tD (λ_=>tC (by decide)) λ_=>?_;obtain⟨x,hx,x0,x1,x2⟩:=c7c n;have:=x2 h0 (by omega);subst this;rw[hx,qA,e9 (by omega) (by omega)];refine tA (e17 h0 (by omega)) λd hd=>?_;rw[if_neg (by grind)];refine tJ ?_;unfold a3x;exact tC (by grind)
def b8k(f:fQ)(k:Int):Tot (a1g f k) λ_=>True:=by
 have fin:∀(s:A4)(m:Int),s.size<=1000000010->0<=m->m<10000->2<=k->k<=4->Tot (a1u (k,s,m)) λ_=>True:=by
  intro s m hs m0 m1 k0 k1;have h9:a6h.size=10:=by decide
  refine tO (I:=λv:A4×Int×Int=>0<=v.2.1/\0<=v.2.2/\(v.1.size:Int)+v.2.2<=1000001010/\((v.2.2=1000/\v.2.1<10000)\/(v.2.2=100/\v.2.1<1000)\/(v.2.2=10/\v.2.1<100)\/(v.2.2=1/\v.2.1<10)\/v.2.1=0)) (μ:=λv=>v.2.2.toNat) (s:=(s,m,1000)) ⟨m0,by simp_all,by grind,.inl ⟨rfl,m1⟩⟩ (by simp_all) ?_;intro r v hI ih;obtain⟨g1,g2,g3,g4⟩:=hI;refine tD (λh=>?_) λ_=>?_
  .simp at h;have hp:0<v.2.2:=by omega
   have hq:v.2.1/v.2.2<=9:=by
    rcases g4 with⟨e,_⟩|⟨e,_⟩|⟨e,_⟩|⟨e,_⟩|e;.rw[e];omega
    .rw[e];omega
    .rw[e];omega
    .rw[e];omega
    omega
   obtain⟨q,hq0,hq1,hq2,_⟩:=a7t (a:=v.2.1) (b:=v.2.2) g1 (by omega) hp;simp only[hq0,qA];rw[a42 hq2 (by omega)];refine tA (a5a hq2 (by omega) (by omega)) λc hc=>tA (d6 (by omega)) λd hd=>tA (a3p g1 hp) λe he=>tA (a7t (a:=v.2.2) (b:=10) g2 (by omega) (by omega)) λz hz=>?_;refine ih (d,e,z) ⟨he.2.1,hz.2.1,by show(d.size:Int)+z<=_;omega,?_⟩ (by show z.toNat<v.2.2.toNat;omega);show(z=1000/\e<10000)\/(z=100/\e<1000)\/(z=10/\e<100)\/(z=1/\e<10)\/e=0;omega
  .have e1:i64 (k-2)=k-2:=e9 (by omega) (by omega);rw[e1];refine tA (c6 (l:=[a3j,e4t,e6u]) (by omega) (by simp;omega)) λ_ _=>tA (c6 (l:=[a3j,e4t,e6u]) (by omega) (by simp;omega)) λx hx=>?_;have hx1:x.size<=1:=by simp at hx;rcases hx with rfl|rfl|rfl<;>decide
   exact tA (d6 (by omega)) λ_ _=>tC trivial
 refine tA (b7i f) λb hb=>?_;rw[y3,qA];refine tA (Q:=λc=>c=false->b=true/\0<=f.Num/\∃x,b8t 10000 f.Den=some x/\x=0) (tD (λ_=>tC λh=>by grind) λhn=>?_) λc hc=>?_
 .have hn:b=true/\0<=f.Num:=by simp_all
  have hd:=hb hn.1;obtain⟨x,hx,_⟩:=a3p (a:=10000) (b:=f.Den) (by omega) (by omega);rw[hx,qA];exact tC λhh=>⟨hn.1,hn.2,x,rfl,by simp_all⟩
 simp only[y3,qA];refine tD (λ_=>tC trivial) λhn=>?_;simp at hn;obtain⟨⟨hc1,hk0⟩,hk1⟩:=hn;obtain⟨b1,n0,x,hx,x0⟩:=hc hc1;obtain⟨d0,d1,_,n1⟩:=hb b1;have hmod:10000%f.Den=0:=by rw[d04 (by omega),c9f (by omega)]at hx;rw[<-x0];exact qH hx
 refine tA (a7t n0 (by omega) (by omega)) λq hq=>tD (λ_=>tC trivial) λhn=>?_;have hq9:q<=999999999:=by simp at hn;omega
 refine tA (c3m hq.2.1 hq9) λs hs=>tA (a7t (a:=10000) (b:=f.Den) (by omega) (by omega) (by omega)) λz hz=>?_;have hqd:q*f.Den<=f.Num:=by rw[hq.1];exact Int.ediv_mul_le _ (by omega)
 have hrd:f.Num-q*f.Den<f.Den:=by have:=Int.lt_ediv_add_one_mul_self f.Num (b:=f.Den) (by omega);rw[hq.1];rw[Int.add_mul,Int.one_mul]at this;omega
 have hzd:f.Den*z=10000:=by rw[hz.1];have:=Int.emod_add_mul_ediv 10000 f.Den;omega
 have hr0:0<=f.Num-q*f.Den:=by omega
 have hX0:0<=(f.Num-q*f.Den)*z:=Int.mul_nonneg hr0 hz.2.1;have hX1:(f.Num-q*f.Den)*z<10000:=by
  rw[<-hzd];have hz1:0<z:=by
   rcases Int.lt_or_eq_of_le hz.2.1with h|h;.omega
   .rw[<-h]at hzd;omega
  exact Int.mul_lt_mul_of_pos_right hrd hz1
 have e1:i64 (q*f.Den)=q*f.Den:=e9 (by omega) (by omega);have e2:i64 (f.Num-q*f.Den)=f.Num-q*f.Den:=e9 (by omega) (by omega);have e3:i64 ((f.Num-q*f.Den)*z)=(f.Num-q*f.Den)*z:=e9 (by omega) (by omega);rw[e1,e2,e3];refine tD (λ_=>?_) λ_=>tJ (fin _ _ (by omega) hX0 hX1 (by omega) (by omega));refine tA (d6 (by rw[show b1i.size=1from rfl];omega)) λd hd=>tJ (fin _ _ (by rw[show b1i.size=1from rfl]at hd;omega) hX0 hX1 (by omega) (by omega))
def d68:∀(n m:Nat)(e:Expr),n<=m->EB n e->Tot ((s5 m).f_pensionref5_Depth e) λ_=>True|0,_,_,_,h=>h.elim|n+1,0,_,hm,_=>by omega|n+1,m+1,e,hm,h=>by show Tot (a7r (s5 m) e) _;refine tO (I:=λv:Expr×Int×Int=>v.1=e/\0<=v.2.2) (μ:=λv=>(3-v.2.2).toNat) ⟨rfl,Int.le_refl _⟩ (by simp_all) ?_;intro r v hI ih;obtain⟨g1,g2⟩:=hI;have hl:=h.1;unfold b5n;rw[g1];refine tD (λhc=>?_) λ_=>tC trivial;simp at hc;refine tA (c6 g2 hc) λx hx=>tA (d68 n m x (by omega) (h.2.2 x hx)) λ_ _=>?_;rw[a42 g2 (by omega)];exact ih (e,_,v.2.2+1) ⟨rfl,by grind⟩ (by show(3-(v.2.2+1)).toNat<(3-v.2.2).toNat;omega)
def e3a:∀(n m:Nat)(e:Expr),n<=m->EB n e->Tot ((u7 m).f_pensionref5_Size e) λ_=>True|0,_,_,_,h=>h.elim|n+1,0,_,hm,_=>by omega|n+1,m+1,e,hm,h=>by show Tot (a94 (u7 m) e) _;refine tO (I:=λv:Expr×Int×Int=>v.1=e/\0<=v.2.2) (μ:=λv=>(3-v.2.2).toNat) ⟨rfl,Int.le_refl _⟩ (by simp_all) ?_;intro r v hI ih;obtain⟨g1,g2⟩:=hI;have hl:=h.1;unfold b6r;rw[g1];refine tD (λhc=>?_) λ_=>tC trivial;simp at hc;refine tA (c6 g2 hc) λx hx=>tA (e3a n m x (by omega) (h.2.2 x hx)) λ_ _=>?_;rw[a42 g2 (by omega)];exact ih (e,_,v.2.2+1) ⟨rfl,by grind⟩ (by show(3-(v.2.2+1)).toNat<(3-v.2.2).toNat;omega)
def d25:∀(n m:Nat)(e:Expr),n<=m->EB n e->Tot ((p7 m).f_pensionref5_formed e) λ_=>True
 |0,_,_,_,h=>h.elim|n+1,0,_,hm,_=>by omega|n+1,m+1,e,hm,h=>by
   show Tot (a6s (p7 m) e) _;unfold a6s;simp only[o4,qA];refine tA (e3t _) λk _=>tD (λ_=>tC trivial) λ_=>tD (λ_=>?_) λ_=>tD (λ_=>?_) λ_=>tD (λ_=>tC trivial) λ_=>?_;.exact tA (b8k _ _) λq _=>tC trivial
   .exact tA (Q:=λ_=>True) (tD (λ_=>tA (c1t h.2.1) λ_ _=>tC trivial) λ_=>tC trivial) λ_ _=>tC trivial
   refine tO (I:=λv:Expr×Int=>v.1=e/\0<=v.2) (μ:=λv=>(3-v.2).toNat) ⟨rfl,Int.le_refl _⟩ (by omega) ?_;intro r v hI ih;obtain⟨g1,g2⟩:=hI;have hl:=h.1;unfold b4j;rw[g1];refine tD (λhc=>?_) λ_=>tC trivial;simp at hc;refine tA (c6 g2 hc) λx hx=>tA (d25 n m x (by omega) (h.2.2 x hx)) λ_ _=>tD (λ_=>tC trivial) λ_=>?_;rw[a42 g2 (by omega)];exact ih (e,v.2+1) ⟨rfl,by omega⟩ (by omega)
def b66{e:Expr}(h:EB 8001 e):Tot (a0g e) λ_=>True:=by
 have hF:8001<=FU:=by unfold FU;omega
 refine tA (d68 _ _ e hF h) λd _=>?_;refine tA (Q:=λ_=>True) (tD (λ_=>tA (e3a _ _ e hF h) λ_ _=>tC trivial) λ_=>tC trivial) λ_ _=>?_;exact tA (Q:=λ_=>True) (tD (λ_=>tA (d25 _ _ e hF h) λ_ _=>tC trivial) λ_=>tC trivial) λ_ _=>tC trivial
def c75{v:Version}(hv:VG v):Tot (a3n v) λ_=>True:=by
 obtain⟨k1,k2,k3,k4,k5,kL,kG,kR⟩:=hv;have l5:Tot (d9 FU a4x (v,0)) λ_=>True:=by refine tO (I:=λs:Version×Int=>s.1=v/\0<=s.2) (μ:=λs=>((v.Reduces.length:Int)-s.2).toNat) ⟨rfl,Int.le_refl _⟩ (by omega) ?_;intro r s hI ih;obtain⟨g1,g2⟩:=hI;unfold a4x;rw[g1];refine tD (λhc=>?_) λ_=>tC trivial;simp at hc;obtain⟨x,hx,hm⟩:=c6 g2 hc;simp only[hx,qA];refine tA (c5i _ _) λw _=>?_;refine tA (Q:=λ_=>True) (tD (λ_=>tC trivial) λ_=>tA (b66 (kR x hm)) λ_ _=>tC trivial) λb _=>tD (λ_=>tC trivial) λ_=>?_;rw[a42 g2 (by omega)];exact ih (v,s.2+1) ⟨rfl,by omega⟩ (by omega)
 have l4:Tot (d9 FU a4o (v,0)) λ_=>True:=by refine tO (I:=λs:Version×Int=>s.1=v/\0<=s.2) (μ:=λs=>((v.Grants.length:Int)-s.2).toNat) ⟨rfl,Int.le_refl _⟩ (by omega) ?_;intro r s hI ih;obtain⟨g1,g2⟩:=hI;unfold a4o;rw[g1];refine tD (λhc=>?_) λ_=>l5;simp at hc;obtain⟨x,hx,hm⟩:=c6 g2 hc;simp only[hx,qA];refine tA (c5i _ _) λw _=>?_;refine tA (Q:=λ_=>True) (tD (λ_=>tC trivial) λ_=>tA (b66 (kG x hm).1) λ_ _=>tC trivial) λb _=>?_;refine tA (Q:=λ_=>True) (tD (λ_=>tC trivial) λ_=>tA (b66 (kG x hm).2) λ_ _=>tC trivial) λb _=>tD (λ_=>tC trivial) λ_=>?_;rw[a42 g2 (by omega)];exact ih (v,s.2+1) ⟨rfl,by omega⟩ (by omega)
 have l3:Tot (d9 FU a56 (v,0)) λ_=>True:=by refine tO (I:=λs:Version×Int=>s.1=v/\0<=s.2) (μ:=λs=>((v.Lets.length:Int)-s.2).toNat) ⟨rfl,Int.le_refl _⟩ (by omega) ?_;intro r s hI ih;obtain⟨g1,g2⟩:=hI;unfold a56;rw[g1];refine tD (λhc=>?_) λ_=>l4;simp at hc;obtain⟨x,hx,hm⟩:=c6 g2 hc;simp only[hx,qA];refine tA (c1t (kL x hm).1) λw _=>?_;refine tA (Q:=λ_=>True) (tD (λ_=>tC trivial) λ_=>tA (b66 (kL x hm).2) λ_ _=>tC trivial) λb _=>tD (λ_=>tC trivial) λ_=>?_;rw[a42 g2 (by omega)];exact ih (v,s.2+1) ⟨rfl,by omega⟩ (by omega)
 have l2:Tot (d9 FU a4z (v,0)) λ_=>True:=by refine tO (I:=λs:Version×Int=>s.1=v/\0<=s.2) (μ:=λs=>((v.Series.length:Int)-s.2).toNat) ⟨rfl,Int.le_refl _⟩ (by omega) ?_;intro r s hI ih;obtain⟨g1,g2⟩:=hI;unfold a4z;rw[g1];refine tD (λhc=>?_) λ_=>l3;simp at hc;obtain⟨x,hx,hm⟩:=c6 g2 hc;simp only[hx,qA];refine tA (b8k _ _) λw _=>?_;simp only[y3,qA];refine tD (λ_=>tC trivial) λ_=>?_;rw[a42 g2 (by omega)];exact ih (v,s.2+1) ⟨rfl,by omega⟩ (by omega)
 have l1:Tot (d9 FU a4r (v,0)) λ_=>True:=by refine tO (I:=λs:Version×Int=>s.1=v/\0<=s.2) (μ:=λs=>((v.Credits.length:Int)-s.2).toNat) ⟨rfl,Int.le_refl _⟩ (by omega) ?_;intro r s hI ih;obtain⟨g1,g2⟩:=hI;unfold a4r;rw[g1];refine tD (λhc=>?_) λ_=>l2;simp at hc;obtain⟨x,hx,hm⟩:=c6 g2 hc;simp only[hx,qA];refine tA (c5i _ _) λw _=>?_;simp only[y3,qA];refine tD (λ_=>tC trivial) λ_=>?_;rw[a42 g2 (by omega)];exact ih (v,s.2+1) ⟨rfl,by omega⟩ (by omega)
 refine tA (d3a _) λb _=>?_;refine tA (Q:=λ_=>True) (tD (λ_=>tC trivial) λ_=>tA (c4z _) λ_ _=>tC trivial) λb _=>?_;simp only[y3,qA];exact tD (λ_=>tC trivial) λ_=>l1
def e4c{s:Statute}(hn:s.Name.size<=8000)(hl:s.Versions.length<=8001)(hv:∀v∈s.Versions,VG v):Tot (b00 s) λb=>b=true->1<=s.Currency/\s.Currency<=999:=by
 refine tA (c1t hn) λb _=>?_;simp only[y3,qA];refine tD (λ_=>tC λh=>by cases h) λhc=>?_;have hq:1<=s.Currency/\s.Currency<=999:=by simp only[Bool.or_eq_true,decide_eq_true_eq,not_or]at hc;omega
 refine tO (I:=λx:Statute×Int=>x.1=s/\0<=x.2) (μ:=λx=>((s.Versions.length:Int)-x.2).toNat) ⟨rfl,Int.le_refl _⟩ (by omega) ?_;intro r x hI ih;obtain⟨g1,g2⟩:=hI;unfold b5o;rw[g1];refine tD (λhc=>?_) λ_=>tC λ_=>hq;simp at hc;refine tA (c6 g2 hc) λv hm=>tA (c75 (hv v hm)) λ_ _=>tD (λ_=>tC λh=>by cases h) λ_=>?_;rw[a42 g2 (by omega)];exact ih (s,x.2+1) ⟨rfl,by omega⟩ (by omega)
def e9l(s:A4):Tot (b02 s) λq=>(∃r,q.1=some r/\RI r)\/(q.1=none/\(q.2.2!=0)=true):=by refine tA (g63 s) λq hq=>tD (λh=>tC (.inr ⟨rfl,h⟩)) λ_=>tC (.inl ⟨_,rfl,?_⟩);exact⟨Int.le_refl 0,by simp_all,hq.2.1,hq.1⟩
def f2l{r:rQ}(h:RI r):Tot (a3s r) λ_=>True:=by refine tD (λhc=>?_) λ_=>tC trivial;simp at hc;exact tA (c6 h.1 hc) λ_ _=>tC trivial
def SG(s:Statute):Prop:=s.Versions.length<=8001/\∀v∈s.Versions,VG v
def SG0:SG ⟨a3j,0,[]⟩:=⟨Nat.zero_le _,λv h=>by grind⟩
def e7z(s:A4):Tot (a9z s) λq=>SG q.1/\(q.2.2=0->1<=q.1.Currency/\q.1.Currency<=999):=by
 refine tA (e9l s) λq hq=>?_;rcases hq with⟨r,hr,hI⟩|⟨hn,hc⟩;case inr=>rw[hn];rw[if_pos hc];exact tC ⟨SG0,λh=>by simp_all⟩
 rw[hr];refine tD (λhc=>tC ⟨SG0,λh=>by simp_all⟩) λ_=>?_;refine tA (a2p hI _) λq1 g1=>?_;have r1:=g1.1.ri hI;refine tA (d50 r1) λq2 g2=>?_;have r2:=g2.1.ri r1;refine tA (a2p r2 _) λq3 g3=>?_;have r3:=g3.1.ri r2;refine tA (c0o r3 _ _) λq4 g4=>?_;have r4:=g4.1.ri r3;refine tA (a2p r4 _) λq5 g5=>?_;have r5:=g5.1.ri r4;refine tO (σ:=(O Version)×Statute×rQ×(O Version)×Statute×Bool) (I:=λv=>RS q5 v.2.2.1/\((v.2.2.2.1.length:Int)<=v.2.2.1.at_\/(v.2.2.1.bad=true/\(v.2.2.2.1.length:Int)<=v.2.2.1.at_+1))/\(∀x∈v.2.2.2.1,VG x)/\v.2.2.2.2.1.Name.size<=8000) (μ:=λv=>2*left v.2.2.1+(if v.2.2.1.bad=true then 0 else 1)) (s:=([],(⟨a3j,0,[]⟩:Statute),q5,[],(⟨q2.1,q4.1,[]⟩:Statute),true)) ⟨RS.refl r5,.inl r5.1,(λx hx=>by grind),g2.2.1⟩ (by
   have h8:=r5.2.2.1;have h10:left q5<=8000:=by unfold left;have:=r5.1;omega
   grind) ?_;intro rc v hv ih;obtain⟨i1,i2,i3,i4⟩:=hv;have rv:=i1.ri r5;have h8:=d56 r5 i1;have fin:∀(p:rQ),RI p->Tot (a6p (v.1,(⟨v.2.1.Name,v.2.1.Currency,[]⟩:Statute),p,v.2.2.2.1,(⟨v.2.2.2.2.1.Name,v.2.2.2.2.1.Currency,[]⟩:Statute))) λq=>SG q.1/\(q.2.2=0->1<=q.1.Currency/\q.1.Currency<=999):=by intro p hp;unfold a6p;rw[y3,qA];refine tD (λ_=>tA (f2l hp) λ_ _=>tC ⟨SG0,λh=>by cases h⟩) λ_=>?_;exact tA (e4c i4 (by show v.2.2.2.1.length<=8001;omega) i3) λb hb=>tD (λ_=>tC ⟨SG0,λh=>by cases h⟩) λhc=>tC ⟨⟨by show v.2.2.2.1.length<=8001;omega,i3⟩,λ_=>hb (by simpa using hc)⟩
 have nxt:∀(p:rQ),p=v.2.2.1->v.2.2.1.bad=false->Tot (a6u rc (v.1,(⟨v.2.1.Name,v.2.1.Currency,[]⟩:Statute),p,v.2.2.2.1,(⟨v.2.2.2.2.1.Name,v.2.2.2.2.1.Currency,[]⟩:Statute))) λq=>SG q.1/\(q.2.2=0->1<=q.1.Currency/\q.1.Currency<=999):=by
  intro p hp hb;subst hp;have hlen:(v.2.2.2.1.length:Int)<=v.2.2.1.at_:=by
   rcases i2 with h|h;.omega
   .rw[hb]at h;cases h.1
  refine tA (e0y rv) λx gx=>tA (b24 (by simp;omega)) λl hl=>?_;subst hl;have gx:(RS v.2.2.1 x.2/\(v.2.2.1.at_<x.2.at_\/x.2.bad=true)/\VG x.1):=gx;have ha:=gx.1.2.1;refine ih _ ⟨i1.trans gx.1,?_,λy hy=>(b4a hy).elim (i3 y) λe=>by subst e;exact gx.2.2,i4⟩ ?_
  .rw[qL];simp only[qR,qS];rcases gx.2.1with h|h;.omega
   .right;exact⟨h,by omega⟩
  .rw[hb];rcases gx.2.1with h|h;.have:=c1e rv gx.1 h;split<;>simp<;>omega
   .have:=b3m gx.1;rw[h];simp;omega
 refine tD (λhb=>?_) λ_=>tJ (fin _ rv);have hb:v.2.2.1.bad=false:=by simpa using hb
 refine tD (λ_=>tJ (nxt _ rfl hb)) λ_=>?_;refine tA (a9b rv _) λt ht=>tD (λhp=>tJ (nxt _ (ht.2.2.2 (by simpa using hp)) hb)) λ_=>tJ (fin _ (ht.1.ri rv))
def b0k(l:O Int)(k:Int)(s:A4)(hl:l.length<=9223372036854775807)(hs:s.size<=2400):Tot (a5b (l,k,s)) λr=>r.size<=2500:=by
 unfold a5b;try dsimp only
 have hstr__7d_:d3i.size=2:=by decide
 have hstrh_a41f67:c8b.size=51:=by decide
 refine tA (a0t _ _ hl) λv105 hv105=>?_;refine tA (a1i (by omega) (by omega)) λv106 hv106=>?_;refine tD (λhc=>?_) λhc=>?_;.refine tA (d6 (by omega)) λv107 hv107=>?_;refine tA (d6 (by omega)) λv108 hv108=>?_;exact tC (by omega)
 .refine tA (d6 (by omega)) λv109 hv109=>?_;exact tC (by omega)
def b0m(l:O Int)(k:Int)(s:A4)(hl:l.length<=9223372036854775807)(hs:s.size<=1900):Tot (a5c (l,k,s)) λr=>r.size<=2500:=by
 unfold a5c;try dsimp only
 have hstr__3b_:b7x.size=2:=by decide
 have hstr_d_pay_:d1p.size=6:=by decide
 have hstr_reduce_old_by_:b7g.size=14:=by decide
 have hstrh_635cfa:c9u.size=14:=by decide
 have hstrh_a54acb:c7y.size=27:=by decide
 have hstrh_af57c7:c86.size=27:=by decide
 have hstrh_bfa283:c9l.size=29:=by decide
 refine tA (a0t _ _ hl) λv79 hv79=>?_;refine tA (a1i (by omega) (by omega)) λv80 hv80=>?_;refine tA (b01 (by omega) (by omega)) λv81 hv81=>?_;refine tA (d6 (by omega)) λv82 hv82=>?_;refine tA (d6 (by omega)) λv83 hv83=>?_;refine tA (a0t _ _ hl) λv84 hv84=>?_;refine tA (a1i (by omega) (by omega)) λv85 hv85=>?_;refine tA (c2e (by omega) (by omega)) λv86 hv86=>?_;refine tA (d6 (by omega)) λv87 hv87=>?_;refine tA (d6 (by omega)) λv88 hv88=>?_;refine tA (d6 (by omega)) λv89 hv89=>?_;refine tA (a0t _ _ hl) λv90 hv90=>?_;refine tA (a1i (by omega) (by omega)) λv91 hv91=>?_;refine tA (b01 (by omega) (by omega)) λv92 hv92=>?_;refine tA (d6 (by omega)) λv93 hv93=>?_;refine tA (d6 (by omega)) λv94 hv94=>?_;refine tA (d6 (by omega)) λv95 hv95=>?_;refine tA (a0t _ _ hl) λv96 hv96=>?_;refine tA (a1i (by omega) (by omega)) λv97 hv97=>?_;refine tD (λhc=>?_) λhc=>?_;.refine tA (a0t _ _ hl) λv98 hv98=>?_;refine tA (a1i (by omega) (by omega)) λv99 hv99=>?_;refine tA (c1j (by omega) (by omega)) λv100 hv100=>?_;refine tA (d6 (by omega)) λv101 hv101=>?_;refine tA (d6 (by omega)) λv102 hv102=>?_;refine tA (d6 (by omega)) λv103 hv103=>?_;exact tJ (b0k _ _ _ hl (by omega))
 .exact tJ (b0k _ _ _ hl (by omega))
def b0i(l:O Int)(k:Int)(t s:A4)(hl:l.length<=9223372036854775807)(ht:t.size<=8)(hs:s.size<=900):Tot (a5j (l,k,t,s)) λr=>r.size<=2500:=by
 unfold a5j;try dsimp only
 have hstr__3b_:b7x.size=2:=by decide
 have hstr_m_29_3b_:c6o.size=4:=by decide
 have hstrh_196854:c83.size=22:=by decide
 have hstrh_34ba8d:d0e.size=9:=by decide
 have hstrh_4d1f9b:c80.size=13:=by decide
 have hstrh_58c487:c8p.size=16:=by decide
 have hstrh_7bee7c:c8d.size=31:=by decide
 have hstrh_7ff122:c9k.size=25:=by decide
 have hstrh_85bf07:c9z.size=13:=by decide
 have hstrh_98dd23:c8t.size=20:=by decide
 have hstrh_b388fe:c9d.size=66:=by decide
 have hstrh_d82640:d02.size=23:=by decide
 have hstrh_da8d59:c8f.size=26:=by decide
 refine tA (a0t _ _ hl) λv29 hv29=>?_;refine tA (a1i (by omega) (by omega)) λv30 hv30=>?_;refine tA (c1j (by omega) (by omega)) λv31 hv31=>?_;refine tA (d6 (by omega)) λv32 hv32=>?_;refine tA (d6 (by omega)) λv33 hv33=>?_;refine tA (a0t _ _ hl) λv34 hv34=>?_;refine tA (a1i (by omega) (by omega)) λv35 hv35=>?_;refine tA (c1j (by omega) (by omega)) λv36 hv36=>?_;refine tA (d6 (by omega)) λv37 hv37=>?_;refine tA (d6 (by omega)) λv38 hv38=>?_;refine tA (d6 (by omega)) λv39 hv39=>?_;refine tA (d6 (by omega)) λv40 hv40=>?_;refine tA (d6 (by omega)) λv41 hv41=>?_;refine tA (a0t _ _ hl) λv42 hv42=>?_;refine tA (a1i (by omega) (by omega)) λv43 hv43=>?_;refine tA (c1j (by omega) (by omega)) λv44 hv44=>?_;refine tA (d6 (by omega)) λv45 hv45=>?_;refine tA (d6 (by omega)) λv46 hv46=>?_;refine tA (d6 (by omega)) λv47 hv47=>?_;refine tA (a0t _ _ hl) λv48 hv48=>?_;refine tA (a1i (by omega) (by omega)) λv49 hv49=>?_;refine tA (c2e (by omega) (by omega)) λv50 hv50=>?_;refine tA (d6 (by omega)) λv51 hv51=>?_;refine tA (d6 (by omega)) λv52 hv52=>?_;refine tA (a0t _ _ hl) λv53 hv53=>?_;refine tA (a1i (by omega) (by omega)) λv54 hv54=>?_;refine tA (b01 (by omega) (by omega)) λv55 hv55=>?_;refine tA (d6 (by omega)) λv56 hv56=>?_;refine tA (d6 (by omega)) λv57 hv57=>?_;refine tA (a0t _ _ hl) λv58 hv58=>?_;refine tA (a1i (by omega) (by omega)) λv59 hv59=>?_;refine tA (b01 (by omega) (by omega)) λv60 hv60=>?_;refine tA (d6 (by omega)) λv61 hv61=>?_;refine tA (d6 (by omega)) λv62 hv62=>?_;refine tA (d6 (by omega)) λv63 hv63=>?_;refine tA (a0t _ _ hl) λv64 hv64=>?_;refine tA (a1i (by omega) (by omega)) λv65 hv65=>?_;refine tA (b01 (by omega) (by omega)) λv66 hv66=>?_;refine tA (d6 (by omega)) λv67 hv67=>?_;refine tA (d6 (by omega)) λv68 hv68=>?_;refine tA (a0t _ _ hl) λv69 hv69=>?_;refine tA (a1i (by omega) (by omega)) λv70 hv70=>?_;refine tA (c1j (by omega) (by omega)) λv71 hv71=>?_;refine tA (d6 (by omega)) λv72 hv72=>?_;refine tA (d6 (by omega)) λv73 hv73=>?_;refine tA (d6 (by omega)) λv74 hv74=>?_;refine tA (a0t _ _ hl) λv75 hv75=>?_;refine tA (a1i (by omega) (by omega)) λv76 hv76=>?_;refine tD (λhc=>?_) λhc=>?_;.refine tA (d6 (by omega)) λv77 hv77=>?_;exact tJ (b0m _ _ _ hl (by omega))
 .exact tJ (b0m _ _ _ hl (by omega))
def b0j(l:O Int)(k:Int)(t s:A4)(hl:l.length<=9223372036854775807)(ht:t.size<=8)(hs:s.size<=800):Tot (a5k (l,k,t,s)) λr=>r.size<=2500:=by
 unfold a5k;try dsimp only
 have hstrh_2afe9d:c9v.size=18:=by decide
 refine tA (a0t _ _ hl) λv25 hv25=>?_;refine tA (a1i (by omega) (by omega)) λv26 hv26=>?_;refine tD (λhc=>?_) λhc=>?_;.refine tA (d6 (by omega)) λv27 hv27=>?_;exact tJ (b0i _ _ _ _ hl ht (by omega))
 .exact tJ (b0i _ _ _ _ hl ht (by omega))
def a2r(l:O Int)(k:Int)(t s:A4)(hl:l.length<=9223372036854775807)(ht:t.size<=8)(hs:s.size<=400):Tot (a1a (l,k,t,s)) λr=>r.size<=2500:=by
 unfold a1a;try dsimp only
 have hstr__3b_:b7x.size=2:=by decide
 have hstrh_405077:c8s.size=19:=by decide
 have hstrh_f7dc2d:d01.size=42:=by decide
 refine tA (a0t _ _ hl) λv10 hv10=>?_;refine tA (a1i (by omega) (by omega)) λv11 hv11=>?_;refine tA (c2e (by omega) (by omega)) λv12 hv12=>?_;refine tA (d6 (by omega)) λv13 hv13=>?_;refine tA (d6 (by omega)) λv14 hv14=>?_;refine tA (d6 (by omega)) λv15 hv15=>?_;refine tA (a0t _ _ hl) λv16 hv16=>?_;refine tA (a1i (by omega) (by omega)) λv17 hv17=>?_;refine tD (λhc=>?_) λhc=>?_;.refine tA (a0t _ _ hl) λv18 hv18=>?_;refine tA (a1i (by omega) (by omega)) λv19 hv19=>?_;refine tA (c2e (by omega) (by omega)) λv20 hv20=>?_;refine tA (d6 (by omega)) λv21 hv21=>?_;refine tA (d6 (by omega)) λv22 hv22=>?_;refine tA (d6 (by omega)) λv23 hv23=>?_;exact tJ (b0j _ _ _ _ hl ht (by omega))
 .exact tJ (b0j _ _ _ _ hl ht (by omega))
def a8b(a:A4)(l:O Int)(k:Int)(hl:l.length<=9223372036854775807)(ha:a.size<=20):Tot (a38 a l k) λr=>r.size<=2500:=by
 have hstr___7b_round_:c1g.size=9:=by decide
 have hstr_down_1_3b_:c33.size=8:=by decide
 have hstr_even_10_3b_:c19.size=9:=by decide
 have hstr_from__40:c6e.size=6:=by decide
 have hstr_half_5_3b_:c32.size=8:=by decide
 have hstr_up_1_3b_:c6d.size=6:=by decide
 refine tA (a0t _ _ hl) λv1 hv1=>?_;refine tA (a1i (by omega) (by omega)) λv2 hv2=>?_;refine tA (c2e (by omega) (by omega)) λv3 hv3=>?_;refine tA (d6 (by omega)) λv4 hv4=>?_;refine tA (d6 (by omega)) λv5 hv5=>?_;refine tA (a0t _ _ hl) λv6 hv6=>?_;refine tA (a1i (by omega) (by omega)) λv7 hv7=>?_;refine tD (λhc=>?_) λhc=>?_;.refine tA (d6 (by omega)) λv8 hv8=>?_;exact tJ (a2r _ _ _ _ hl (by omega) (by omega))
 .refine tD (λhc=>?_) λhc=>?_;.refine tA (d6 (by omega)) λv110 hv110=>?_;exact tJ (a2r _ _ _ _ hl (by omega) (by omega))
  .refine tD (λhc=>?_) λhc=>?_;.refine tA (d6 (by omega)) λv111 hv111=>?_;exact tJ (a2r _ _ _ _ hl (by omega) (by omega))
   .refine tA (d6 (by omega)) λv112 hv112=>?_;exact tJ (a2r _ _ _ _ hl (by omega) (by omega))
def b2j(k:Int)(l:O Int)(s:A4)(hl:l.length<=9223372036854775807)(hs:s.size<=6000):Tot (a7x (k,l,s)) λr=>True:=by
 unfold a7x;try dsimp only
 have hstr__7d:d0a.size=1:=by decide
 refine tA (a0t _ _ hl) λv15 hv15=>?_;refine tA (a1i (by omega) (by omega)) λv16 hv16=>?_;refine tD (λhc=>?_) λhc=>?_;.refine tA (a8b _ _ _ hl (by decide)) λv17 hv17=>?_;refine tA (d6 (by omega)) λv18 hv18=>?_;refine tA (d6 (by omega)) λv19 hv19=>?_;exact tC (by omega)
 .refine tA (d6 (by omega)) λv20 hv20=>?_;exact tC (by omega)
def c2w{k:Int}(l:O Int)(hl:l.length<=9223372036854775807)(h0:0<=k)(h3:k<3):Tot (b10 k l) λr=>True:=by
 have hstr___7b_:d8i.size=3:=by decide
 have hstr__currency_:c2x.size=10:=by decide
 have hstr_statute_:c70.size=8:=by decide
 have hn:∀x∈[c2c,c24,b8j],x.size<=10:=by decide
 refine tA (c6 (l:=[c2c,c24,b8j]) h0 h3) λv1 hv1=>?_;refine tA (c6 (l:=[c2c,c24,b8j]) h0 h3) λv2 hv2=>?_;have hv2:=hn v2 hv2;refine tA (d6 (by omega)) λv3 hv3=>?_;refine tA (d6 (by omega)) λv4 hv4=>?_;refine tA (c2e (by omega) (by omega)) λv5 hv5=>?_;refine tA (d6 (by omega)) λv6 hv6=>?_;refine tA (d6 (by omega)) λv7 hv7=>?_;refine tA (a8b _ _ _ hl (by decide)) λv8 hv8=>?_;refine tA (d6 (by omega)) λv9 hv9=>?_;refine tA (a0t _ _ hl) λv10 hv10=>?_;refine tA (a1i (by omega) (by omega)) λv11 hv11=>?_;refine tD (λhc=>?_) λhc=>?_;.refine tA (a8b _ _ _ hl (by decide)) λv12 hv12=>?_;refine tA (d6 (by omega)) λv13 hv13=>?_;exact tJ (b2j _ _ _ hl (by omega))
 .exact tJ (b2j _ _ _ hl (by omega))
def e1k(a:Int):Tot (a97 a) λ_=>True:=by have h:∀k:Int,0<k->k<=9000->Tot (Option.bind (c2t a 4) λv=>Option.bind (b7 v k) λw=>some (i64 (1+w))) λ_=>True:=λk h0 h1=>tA (b7s (by decide)) λ_ _=>tA (a1i h0 (by omega)) λ_ _=>tC trivial;refine tA (a1i (by omega) (by omega)) λm _=>tD (λ_=>h _ (by omega) (by omega)) λ_=>tD (λ_=>h _ (by omega) (by omega)) λ_=>tD (λ_=>h _ (by omega) (by omega)) λ_=>h _ (by omega) (by omega)
def e4r(k:Int):Tot (u4 k) λs=>s.size<=10:=by
 unfold u4;rw[y3,qA];refine tD (λ_=>tC (by decide)) λh=>?_;simp at h;have hs:∀x∈[a3j,b1y,a6w,a6w,c0p,a9l,b82,a9l,a9l,a9l,c1r,c0e,c0e,c0e,c6f],x.size<=10:=by decide
 exact tA (c6 (by omega) (by simp;omega)) λ_ _=>tA (c6 (by omega) (by simp;omega)) λx hx=>tC (hs x hx)
def f5k(a:tH):Tot (b1b a) λ_=>True:=by
 have j:∀q,Tot (a31 q) λ_=>True:=by
  intro q;refine tA (e4r _) λs hs=>?_;refine tO (σ:=tH×aQ×aQ×Int) (I:=λv=>0<=v.2.2.2) (μ:=λv=>((s.size:Int)-v.2.2.2).toNat) (Int.le_refl _) (by grind) ?_;intro r v g1 ih;refine tD (λhc=>?_) λ_=>tC trivial;simp at hc;have nx:∀(x:tH)(y z:aQ),Tot (r (x,y,z,i64 (v.2.2.2+1))) λ_=>True:=λx y z=>by rw[a42 g1 (by omega)];exact ih _ (by grind) (by show((s.size:Int)-(v.2.2.2+1)).toNat<((s.size:Int)-v.2.2.2).toNat;omega)
  refine tA (a6l g1 hc) λb _=>?_;simp only[o4,qA];repeat' first|exact nx _ _ _|(refine tD (λ_=>?_) λ_=>?_)|(refine tA (a1i (by omega) (by omega)) λ_ _=>?_)|(refine tA (b4f (by decide)) λ_ _=>?_)
 repeat' first|exact tJ (j _)|(refine tD (λ_=>?_) λ_=>?_)|(refine tA (a1i (by omega) (by omega)) λ_ _=>?_)|(refine tA (e1k _) λ_ _=>?_)
def b7k{α β:Type}(f:α->A3 β)(a:α):Go.SX.joinC f a=f a:=rfl
def o6{i n:Nat}(h:i<n):(decide ((i:Int)<(n:Int)))=true:=by simp_all
def g9(n:Nat):¬(decide ((n:Int)<(n:Int)))=true:=by simp
def c38{α:Type}{f:(O α×Int->A3 (O α))->O α×Int->A3 (O α)}{k:Nat}(l:O α)(p:α->Bool)(hl:l.length<=2^30)(hk:k<=1000)(hstep:∀(rec:O α×Int->A3 (O α))(s:O α)(i:Nat)(y:α),l[i]?=some y->f rec (s,(i:Int))=if p y=true then Option.bind (a4n k s [y]) (λa=>rec (a,i64 ((i:Int)+1)))else rec (s,i64 ((i:Int)+1)))(hfin:∀(rec:O α×Int->A3 (O α))(s:O α),f rec (s,(l.length:Int))=some s):d9 FU f ([],0)=some (l.filter p):=by
 refine a9k (f:=f) l (λs i=>(s,i)) (λs i=>s=(l.take i).filter p) (λo=>o=some (l.filter p)) (by omega) ?_ ?_ [] (by simp)
 .rintro rec s i y hi hy rfl;have hlen:((l.take i).filter p).length<=i:=by have:=length_filter_le p (l.take i);rw[List.length_take]at this;omega
  rw[hstep _ _ _ _ hy,a5g (by omega),a9h hy,filter_append]
  by_cases hc:p y=true;.rw[if_pos hc,p6 (by calc(((l.take i).filter p).length+1)*k<=(2^30+1)*1000:=Nat.mul_le_mul (by omega) hk
     _<=_:=by omega),qA];simp_all
  simp_all
 simp_all
def c5d{α:Type}{f:(Int->A3 Int)->Int->A3 Int}(l:O α)(p:α->Bool)(hl:l.length<=2^30)(hstep:∀(rec:Int->A3 Int)(i:Nat)(y:α),l[i]?=some y->f rec (i:Int)=if p y=true then some (i:Int)else rec (i64 ((i:Int)+1)))(hfin:∀rec:Int->A3 Int,f rec (l.length:Int)=some (-1)):∃n,d9 FU f 0=some n/\decide (n>=0)=l.any p:=by
 refine a9k (f:=f) l (λ(_:Unit)i=>i) (λ_ i=>∀y∈l.take i,p y=false) (λo=>∃n,o=some n/\decide (n>=0)=l.any p) (by omega) ?_ ?_ () (by simp)
 .rintro rec s i y hi hy h;rw[hstep _ _ _ hy,a5g (by omega)];by_cases hc:p y=true;.left;rw[if_pos hc];exact⟨_,rfl,by rw[List.any_eq_true.2 ⟨y,qE hy,hc⟩];simp⟩
  .right;rw[if_neg hc];refine⟨(),rfl,λz hz=>?_⟩;rw[a9h hy]at hz;rcases qK.1 hz with hz|hz;.simp_all
   simp_all
 simp_all
def e7o{α σ ρ τ:Type}{f:(σ->A3 ρ)->σ->A3 ρ}(l:O α)(e:τ->Int->σ)(g:τ->α->τ)(out:τ->A3 ρ)(hl:l.length<=2^30)(s0:τ)(J:τ->Nat->Prop)(h0:J s0 0)(hstep:∀(rec:σ->A3 ρ)(s:τ)(i:Nat)(y:α),l[i]?=some y->J s i->J (g s y) (i+1)/\f rec (e s (i:Int))=rec (e (g s y) (i64 ((i:Int)+1))))(hfin:∀(rec:σ->A3 ρ)(s:τ),J s l.length->f rec (e s (l.length:Int))=out s):d9 FU f (e s0 0)=out (l.foldl g s0):=by
 refine a9k (f:=f) l e (λs i=>s=(l.take i).foldl g s0/\J s i) (λo=>o=out (l.foldl g s0)) (by omega) ?_ ?_ s0 ⟨by simp,h0⟩;.rintro rec s i y hi hy⟨rfl,hJ⟩;right;obtain⟨h1,h2⟩:=hstep rec _ i y hy hJ;rw[h2,a5g (by omega)];exact⟨_,rfl,(e4d hy).symm,h1⟩
 simp_all
def d9w(s:A4)(i:Nat):O Int:=(List.range i).map λj=>((s.get! j).toNat:Int)
def ltK(k:Int):O Int:=d9w ((b2r k).getD a3j) ((b2r k).getD a3j).size
def j43:([1,2,3,4,5,6,7,8,9,10,11,12,13,14].all λk=>(match b2r k with|some s=>!(s.toList==a3j.toList)&&[(g49,(83:Int)),(g4j,84),(g3v,72),(g50,67),(g4u,65),(g5k,82)].all λp=>p9 p.1 s==some ((ltK k).contains p.2)|none=>false)&&(ltK k).contains 80)=true:=by kernel_rfl
def j1i{k:Int}(h0:1<=k)(h1:k<=14):(∃s,b2r k=some s/\(s.toList==a3j.toList)=false/\p9 g49 s=some ((ltK k).contains 83)/\p9 g4j s=some ((ltK k).contains 84)/\p9 g3v s=some ((ltK k).contains 72)/\p9 g50 s=some ((ltK k).contains 67)/\p9 g4u s=some ((ltK k).contains 65)/\p9 g5k s=some ((ltK k).contains 82))/\(ltK k).contains 80=true:=by
 have hk:k∈[1,2,3,4,5,6,7,8,9,10,11,12,13,14]:=by simp;omega
 have h:=qX.1 j43 k hk;cases hs:b2r k with|none=>simp[hs]at h|some s=>simp only[hs,qB,List.all_cons,all_nil,beq_iff_eq,Bool.not_eq_true']at h;exact⟨⟨s,rfl,h.1.1,h.1.2.1,h.1.2.2.1,h.1.2.2.2.1,h.1.2.2.2.2.1,h.1.2.2.2.2.2.1,h.1.2.2.2.2.2.2.1⟩,h.2⟩
def j3n{k:Int}(h:k<1\/15<=k):b2r k=some a3j:=by
 have e:∀j:Int,1<=j->j<=14->(k==j)=false:=by intro j _ _;simp;omega
 unfold b2r c0m b4i b7q joinC;simp[e 1,e 2,e 3,e 4,e 5,e 6,e 7,e 8,e 9,e 10,e 11,e 12,e 13,e 14]
def i7h(k c v lo hi:Int):Prop:=((ltK k).contains c=true/\lo<=v/\v<=hi)\/((ltK k).contains c=false/\v=0)
def k0r(b:Bool)(v lo hi:Int):b0d b v lo hi=some (if b=true then decide (lo<=v)&&decide (v<=hi)else v==0):=by unfold b0d a9w;cases b<;>simp[o4]<;>grind
def j9q{k c v lo hi:Int}(h:(if(ltK k).contains c=true then decide (lo<=v)&&decide (v<=hi)else v==0)=true):i7h k c v lo hi:=by unfold i7h;split at h<;>simp_all
structure VF(d:aQ):Prop where
 k0:1<=d.Kind
 k1:d.Kind<=14i:0<=d.Issuer/\d.Issuer<=5n:1<=d.Number/\d.Number<=999v:1<=d.Version/\d.Version<=99p:1<=d.Person/\d.Person<=99s:0<=d.Span.From/\d.Span.From<d.Span.To/\d.Span.To<=73049fS:i7h d.Kind 83 d.State 0 5fT:i7h d.Kind 84 d.Seat 0 5fH:i7h d.Kind 72 d.Share 1 100fC:i7h d.Kind 67 d.Currency 1 999fA:i7h d.Kind 65 d.Amount 0 1000000000fR:i7h d.Kind 82 d.Ref 1 99
def j3l(d:aQ):∃b,b3k d=some b/\(b=true->VF d):=by
 by_cases hk:1<=d.Kind/\d.Kind<=14
 .obtain⟨⟨s,h1,h2,hS,hT,hH,hC,hA,hR⟩,_⟩:=j1i hk.1 hk.2;have q:=λc v lo hi=>@j9q d.Kind c v lo hi;unfold b3k;simp only[hS,hT,hH,hC,hA,hR,h1,h2,k0r,qA,qM,if_false];unfold a9w b8g b9u b9v joinC;simp only[qA,y3,o4];have q1:=q 83 d.State 0 5;have q2:=q 84 d.Seat 0 5;have q3:=q 72 d.Share 1 100;have q4:=q 67 d.Currency 1 999;have q5:=q 65 d.Amount 0 1000000000;have q6:=q 82 d.Ref 1 99;revert q1 q2 q3 q4 q5 q6;generalize(if(ltK d.Kind).contains 83=true then decide (0<=d.State)&&decide (d.State<=5)else d.State==0)=b1;generalize(if(ltK d.Kind).contains 84=true then decide (0<=d.Seat)&&decide (d.Seat<=5)else d.Seat==0)=b2;generalize(if(ltK d.Kind).contains 72=true then decide (1<=d.Share)&&decide (d.Share<=100)else d.Share==0)=b3;generalize(if(ltK d.Kind).contains 67=true then decide (1<=d.Currency)&&decide (d.Currency<=999)else d.Currency==0)=b4;generalize(if(ltK d.Kind).contains 65=true then decide (0<=d.Amount)&&decide (d.Amount<=1000000000)else d.Amount==0)=b5;generalize(if(ltK d.Kind).contains 82=true then decide (1<=d.Ref)&&decide (d.Ref<=99)else d.Ref==0)=b6;intro q1 q2 q3 q4 q5 q6;split;.exact⟨false,rfl,λh=>by cases h⟩
  rename_i c1;split;.exact⟨false,rfl,λh=>by cases h⟩
  rename_i c2;split;.exact⟨false,rfl,λh=>by cases h⟩
  rename_i c3;simp at c1 c2 c3;have hV:VF d:=⟨hk.1,hk.2,by omega,by omega,by omega,by omega,by omega,q1 c2.1.1,q2 c2.1.2,q3 c3.1.1.1,q4 c3.1.1.2,q5 c3.1.2,q6 c3.2⟩;repeat' first|exact⟨_,rfl,λ_=>hV⟩|split
 .refine⟨false,?_,λh=>by cases h⟩;unfold b3k;simp[j3n (k:=d.Kind) (by omega)]
def b73{α β γ:Type}(a:A3 α)(f:α->A3 β)(g:β->A3 γ):(Option.bind a λx=>Option.bind (f x) g)=Option.bind (Option.bind a f) g:=by cases a<;>rfl
def vld(f:aQ):Bool:=(b3k f).getD false
def cur(f:aQ):Bool:=vld f&&!f.Withdrawn
def d1t(f:aQ):b3k f=some (vld f):=by obtain⟨b,h,_⟩:=j3l f;unfold vld;rw[h];rfl
def i6a{d:aQ}(h:vld d=true):VF d:=by obtain⟨b,e,h2⟩:=j3l d;unfold vld at h;rw[e]at h;exact h2 h
def d39{d:aQ}(h:vld d=true):1<=d.Kind/\d.Kind<=14:=⟨(i6a h).k0,(i6a h).k1⟩
def f4a{f:aQ}(h:cur f=true):0<=f.Span.From/\f.Span.From<f.Span.To/\f.Span.To<=73049:=by unfold cur at h;simp at h;exact(i6a h.1).s
def c3d{f:aQ}(h:vld f=true):(1<=f.Kind/\f.Kind<=14)/\(0<=f.State/\f.State<=5)/\(0<=f.Seat/\f.Seat<=5)/\(0<=f.Share/\f.Share<=100)/\(f.Kind=1\/f.Kind=2\/f.Kind=3->1<=f.Share):=by
 have v:=i6a h;have a:=v.fS;have b:=v.fT;have c:=v.fH;unfold i7h at a b c;refine⟨d39 h,by omega,by omega,by omega,λe=>?_⟩;rcases c with c|c;.omega
 .have:∀k:Int,k=1\/k=2\/k=3->(ltK k).contains 72=true:=by rintro k(rfl|rfl|rfl)<;>kernel_rfl
  rw[this _ e]at c;cases c.1
def b6f(f:aQ):a4e f=some (cur f):=by unfold a4e cur;rw[d1t,qA,o4,qA]
def b9a(l:O aQ)(hl:l.length<=2^30):a4f l=some (l.filter cur):=by
 unfold a4f a3f;rw[c38 (k:=112) l cur hl (by omega) (λrec s i y hy=>?_) λrec s=>?_,qA];.have hi:=(qD.1 hy).1;unfold a2b;rw[if_pos (o6 hi)];simp only[e7 hy,qA,b6f]
 .unfold a2b;simp_all
def ofP(l:O aQ)(p:Int):O aQ:=l.filter λf=>f.Person==p
def g5h(l:O aQ)(p:Int):(ofP l p).length<=l.length:=length_filter_le _ _
def l8d(l:O aQ)(p:Int)(hl:l.length<=2^30):l4s l p=some (ofP l p):=by
 unfold l4s l44 ofP;rw[c38 (k:=112) l (λf=>f.Person==p) hl (by omega) (λrec s i y hy=>?_) λrec s=>?_,qA];.have hi:=(qD.1 hy).1;unfold l42 l57;dsimp only;rw[if_pos (o6 hi)];simp only[e7 hy,qA]
 .unfold l42;dsimp only;rw[if_neg (g9 _)]
def c9p(kind:Int)(s:Int×Bool)(y:aQ):Int×Bool:=if(y.Kind==kind)&&(!s.2||decide (y.Span.From<s.1))then(y.Span.From,true)else s
def d4x(l:O aQ)(kind:Int)(hl:l.length<=2^30):b4r l kind=some ((l.filter cur).foldl (c9p kind) (0,false)):=by
 rw[foldl_filter];refine e7o (f:=b21 l kind) l (λ(s:Int×Bool)i=>(s.1,s.2,i)) (λx y=>if cur y=true then c9p kind x y else x) (λs=>some s) hl (0,false) (λ_ _=>True) trivial (λrec s i y hy _=>⟨trivial,?_⟩) λrec s _=>?_
 .have hi:=(qD.1 hy).1;unfold b21;rw[if_pos (o6 hi)];simp only[e7 hy,qA,b6f,y3,o4];unfold c9p;cases cur y;.simp
  grind
 .unfold b21;simp_all
def d3m(l:O aQ):Int×Bool:=(l.filter cur).foldl (c9p 12) (0,false)
def e8l(l:O aQ)(hl:l.length<=2^30):b7l l=some (d3m l):=by unfold b7l;rw[d4x l 12 hl];rfl
def b46(n:Int):Nat->O Int|0=>[]|k+1=>IntKind.u8.wrap (c8u .i64 n (8*k))::b46 n k
def b2u(n:Int):∀k,(b46 n k).length=k|0=>rfl|k+1=>by simp[b46,b2u n k]
def j2k(b:O Int)(k:Nat)(xs:O Int)(hk:k<=8)(hx:xs.length<=1000)(hb:b.length<=100000):i3x b (k:Int) xs=some (b++xs.flatMap λn=>b46 n k):=by
 unfold i3x;have hfl:∀ys:O Int,(ys.flatMap λn=>b46 n k).length=ys.length*k:=by intro ys;induction ys with|nil=>simp|cons y ys ih=>rw[List.flatMap_cons,qL,ih,b2u,qR,Nat.succ_mul];omega
 refine a9k (f:=i4c xs (k:Int)) xs (λs i=>(s,i)) (λs i=>s=b++(xs.take i).flatMap λn=>b46 n k) (λo=>o=some (b++xs.flatMap λn=>b46 n k)) (by omega) ?_ ?_ b (by simp)
 .rintro rec s i y hi hy rfl;right;refine⟨_,?_,rfl⟩;unfold i4c;dsimp only;rw[if_pos (by simp;omega),e7 hy,qA];have hlen:(b++(xs.take i).flatMap λn=>b46 n k).length<=108000:=by rw[qL,hfl,List.length_take];have:min i xs.length*k<=1000*8:=Nat.mul_le_mul (by omega) hk;omega
  have htk:(xs.take (i+1)).flatMap (λn=>b46 n k)=((xs.take i).flatMap λn=>b46 n k)++b46 y k:=by rw[a9h hy,List.flatMap_append];simp
  rw[htk,<-qQ];generalize(b++(xs.take i).flatMap λn=>b46 n k)=c at hlen⊢;refine c4u (f:=i4n y rec (c,(i:Int))) (λst=>∃(q:O Int)(j:Nat),st=(q,(j:Int)-1)/\j<=k/\q++b46 y j=c++b46 y k) (λst=>(st.2+1).toNat) (λo=>o=rec (c++b46 y k,((i+1:Nat):Int))) (s:=(c,i64 ((k:Int)-1))) ⟨c,k,by rw[e9 (by omega) (by omega)],Nat.le_refl _,rfl⟩ (by rw[e9 (by omega) (by omega)];dsimp only;omega) ?_;rintro st rec2⟨q,j,rfl,hj,hq⟩;unfold i4n;dsimp only;cases j with|zero=>left;rw[if_neg (by simp),a5g (by omega)];congr 2;simpa[b46]using hq|succ j=>
    right;have e1:((j+1:Nat):Int)-1=(j:Int):=by omega
    have hql:q.length<=108008:=by have:=congrArg List.length hq;rw[qL,qL,b2u,b2u]at this;omega
    rw[e1,if_pos (by simp),e9 (n:=8*(j:Int)) (by omega) (by omega)];unfold d0l;rw[if_neg (by omega),qA,p6 (by simp;omega),qA,e9 (n:=(j:Int)-1) (by omega) (by omega)];refine⟨_,rfl,⟨_,j,rfl,by omega,?_⟩,by dsimp only;omega⟩;rw[<-hq,qQ];rfl
 .rintro rec s rfl;unfold i4c;dsimp only;rw[if_neg (by simp),List.take_length]
def e6z(d:aQ)(c:Int):O Int:=if c=83then b46 d.State 1 else if c=80then b46 d.Span.From 3++b46 d.Span.To 3 else if c=84then b46 d.Seat 1 else if c=72then b46 d.Share 1 else if c=67then b46 d.Currency 2 else if c=65then b46 d.Amount 4 else if c=82then b46 d.Ref 1 else[]
def f4v(d:aQ)(c:Int):(e6z d c).length<=6:=by
 unfold e6z;repeat' split
 all_goals simp[b2u]
def d13(s:A4):Prop:=s.size<=10/\∀i:Nat,i<s.size->b3c s (i:Int)=some ((s.get! i).toNat:Int)/\(s.get! i).toNat<128
def f2o(s:A4)(i:Nat):d9w s (i+1)=d9w s i++[((s.get! i).toNat:Int)]:=by unfold d9w;rw[range_succ,List.map_append];rfl
def c4y(d:aQ):∀l:O Int,(l.flatMap (e6z d)).length<=6*l.length|[]=>by simp|c::l=>by have:=c4y d l;have h:=f4v d c;rw[List.flatMap_cons,qL,qR];omega
def k0q(b:O Int)(k:Nat)(x:Int)(hk:k<=8)(hb:b.length<=100000):i3x b (k:Int) [x]=some (b++b46 x k):=by rw[j2k b k [x] hk (by simp) hb];simp
set_option maxHeartbeats 1000000 in
def j2q (d:aQ)(s:A4)(hs:d13 s)(b:O Int)(hb:b.length <= 1000):d9 FU i57 (d,b,(s,0))=some (b++(d9w s s.size).flatMap (e6z d)):=by
 have:=b9s (f:=i57) (λ st=> ∃i:Nat,st=(d,b++(d9w s i).flatMap (e6z d),(s,(i:Int))) /\ i <= s.size) (λ st=>s.size-st.2.2.2.toNat) (λ r=>r=b++(d9w s s.size).flatMap (e6z d))
  (s:=(d,b,(s,0))) ⟨0,by simp [d9w],Nat.zero_le _⟩ (by dsimp only;have:=hs.1;omega) ?_
 ·obtain ⟨r,h1,h2⟩:=this;rw [h1,h2]
 ·rintro st rec ⟨i,rfl,hi⟩
  have hlen:(b++(d9w s i).flatMap (e6z d)).length <= 2000:=by
   have:=c4y d (d9w s i)
   have hl:(d9w s i).length=i:=by simp [d9w]
   have:=hs.1
   rw [qL];omega
  unfold i57
  dsimp only
  by_cases h:i<s.size
  ·right
   obtain ⟨_,h2⟩:=hs.2 i h
   have hn:e6l s (i:Int)=some (some ((s.get! i).toNat:Int)):=by unfold e6l;rw [if_pos (by omega),Int.toNat_natCast,if_pos h2]
   rw [hn]
   refine ⟨(d,b++(d9w s (i+1)).flatMap (e6z d),(s,((i+1:Nat):Int))),?_,⟨i+1,rfl,h⟩,by simp only [Int.toNat_natCast];omega⟩
   rw [f2o,List.flatMap_append,<- qQ]
   generalize b++(d9w s i).flatMap (e6z d)=q at hlen⊢
   generalize ((s.get! i).toNat:Int)=c
   simp only [List.flatMap_cons,flatMap_nil,List.append_nil]
   have a1: ∀x,i3x q 1 [x]=some (q++b46 x 1):=λ x=>k0q q 1 x (by omega) (by omega)
   have a2: ∀x,i3x q 2 [x]=some (q++b46 x 2):=λ x=>k0q q 2 x (by omega) (by omega)
   have a4: ∀x,i3x q 4 [x]=some (q++b46 x 4):=λ x=>k0q q 4 x (by omega) (by omega)
   have a3: ∀x y,i3x q 3 [x,y]=some (q++(b46 x 3++b46 y 3)):=λ x y=>by
    have:=j2k q 3 [x,y] (by omega) (by simp) (by omega)
    simpa using this
   have ei:((i:Int)+1)=((i+1:Nat):Int):=by simp
   unfold e6z
   simp only [optC,a1,a2,a3,a4,qA,beq_iff_eq,ei]
   repeat' split
   all_goals first | rfl | simp
  ·left
   have:i=s.size:=by omega
   subst this
   have hn:e6l s (s.size:Int)=none:=by unfold e6l;rw [if_neg (by omega)]
   rw [hn]
   exact ⟨_,rfl,rfl⟩
def e4n:d13 b1y:=⟨by decide,by decide⟩
def d7g:d13 a6w:=⟨by decide,by decide⟩
def g5j:d13 c0p:=⟨by decide,by decide⟩
def e47:d13 a9l:=⟨by decide,by decide⟩
def f8e:d13 b82:=⟨by decide,by decide⟩
def g42:d13 c1r:=⟨by decide,by decide⟩
def g6d:d13 c0e:=⟨by decide,by decide⟩
def g92:d13 c6f:=⟨by decide,by decide⟩
def e2s{k:Int}(h0:1<=k)(h1:k<=14):∃s,b2r k=some s/\u4 k=some s/\d13 s:=by
 have:k=1\/k=2\/k=3\/k=4\/k=5\/k=6\/k=7\/k=8\/k=9\/k=10\/k=11\/k=12\/k=13\/k=14:=by omega
 rcases this with rfl|rfl|rfl|rfl|rfl|rfl|rfl|rfl|rfl|rfl|rfl|rfl|rfl|rfl;exact⟨b1y,by kernel_rfl,by kernel_rfl,e4n⟩;exact⟨a6w,by kernel_rfl,by kernel_rfl,d7g⟩;exact⟨a6w,by kernel_rfl,by kernel_rfl,d7g⟩;exact⟨c0p,by kernel_rfl,by kernel_rfl,g5j⟩;exact⟨a9l,by kernel_rfl,by kernel_rfl,e47⟩;exact⟨b82,by kernel_rfl,by kernel_rfl,f8e⟩;exact⟨a9l,by kernel_rfl,by kernel_rfl,e47⟩;exact⟨a9l,by kernel_rfl,by kernel_rfl,e47⟩;exact⟨a9l,by kernel_rfl,by kernel_rfl,e47⟩;exact⟨c1r,by kernel_rfl,by kernel_rfl,g42⟩;exact⟨c0e,by kernel_rfl,by kernel_rfl,g6d⟩;exact⟨c0e,by kernel_rfl,by kernel_rfl,g6d⟩;exact⟨c0e,by kernel_rfl,by kernel_rfl,g6d⟩;exact⟨c6f,by kernel_rfl,by kernel_rfl,g92⟩
def f3s(d:aQ):O Int:=[if d.Withdrawn=true then(1:Int)else 0,d.Person,d.Kind].flatMap (λn=>b46 n 1)++((d9w ((b2r d.Kind).getD a3j) ((b2r d.Kind).getD a3j).size).flatMap (e6z d))
def d5g(d:aQ):O Int:=b46 d.Issuer 1++(b46 d.Number 2++(b46 d.Version 1++f3s d))
def i8h(d:aQ)(h:vld d=true):i5l d=some (d5g d):=by
 obtain⟨k0,k1⟩:=d39 h;obtain⟨s,e1,_,hs⟩:=e2s k0 k1;have key:∀x:Int,i56 (d,x)=some (b46 d.Issuer 1++(b46 d.Number 2++(b46 d.Version 1++([x,d.Person,d.Kind].flatMap (λn=>b46 n 1)++(d9w s s.size).flatMap (e6z d))))):=by intro x;unfold i56;dsimp only;have a1:=k0q [] 1 d.Issuer (by omega) (by simp);have a2:=k0q ([]++b46 d.Issuer 1) 2 d.Number (by omega) (by simp[b2u]);have a3:=j2k ([]++b46 d.Issuer 1++b46 d.Number 2) 1 [d.Version,x,d.Person,d.Kind] (by omega) (by simp) (by simp[b2u]);have c1:((1:Nat):Int)=1:=rfl;have c2:((2:Nat):Int)=2:=rfl;rw[c1]at a1 a3;rw[c2]at a2;rw[a1,qA,a2,qA,a3,qA,e1,qA,j2q d s hs _ (by simp[b2u])];simp
 unfold i5l d5g f3s;rw[d1t,h,qA,if_neg (by simp),e1];cases hw:d.Withdrawn;.rw[if_neg (by simp)];rw[b7k,key];simp
 .rw[if_pos rfl];rw[b7k,key];simp
def j15:∀(x y:O UInt8),(Lib.compareBytes x y<0)↔Op.bytesLess x y=true
 |[],[]=>by simp[Lib.compareBytes,Op.bytesLess]|[],_::_=>by simp[Lib.compareBytes,Op.bytesLess]|_::_,[]=>by simp[Lib.compareBytes,Op.bytesLess]|a::x,b::y=>by
   have ih:=j15 x y;unfold Lib.compareBytes Op.bytesLess;by_cases h1:a<b;.simp[h1]
   .by_cases h2:b<a
    .have h3:(a==b)=false:=by rw[beq_eq_false_iff_ne];rintro rfl;exact h1 h2
     simp[h1,h2,h3]
    .have h3:a=b:=by have e1:¬a.toNat<b.toNat:=h1;have e2:¬b.toNat<a.toNat:=h2;exact UInt8.toNat_inj.1 (by omega)
     subst h3;simp[h1,ih]
def d5u(a b:aQ):Bool:=Op.bytesLess (Lib.bytesOf (d5g a)) (Lib.bytesOf (d5g b))
def j2g{a b:aQ}(ha:vld a=true)(hb:vld b=true):i6i a b=some (d5u a b):=by unfold i6i;rw[d1t,d1t,ha,hb];simp only[qA,qU,qM,if_false];rw[i8h a ha,i8h b hb];simp only[qA];unfold i5n i59 j96 d5u;simp only[qA,map_id'];congr 1;rw[Bool.eq_iff_iff,decide_eq_true_eq];exact j15 _ _
def c2y(a b:aQ):Prop:=a.Issuer<b.Issuer\/(a.Issuer=b.Issuer/\a.Number<b.Number)
instance(a b:aQ):Decidable (c2y a b):=by unfold c2y;exact inferInstance
def c4o:O aQ->aQ->O aQ|[],f=>[f]|a::t,f=>if c2y a f then a::c4o t f else if c2y f a then f::a::t else(if d5u a f=true then f else a)::t
def e3n(f:aQ):∀l,(c4o l f).length<=l.length+1
 |[]=>Nat.le_refl _|a::t=>by
   have:=e3n f t;unfold c4o;split;.simp;omega
   .split<;>simp
def d3d{f u:aQ}:∀{l:O aQ},u∈c4o l f->u∈l\/u=f
 |[],h=>by rw[c4o,qF]at h;exact .inr h|a::t,h=>by
   unfold c4o at h;split at h
   .rcases qO.1 h with h|h;.exact .inl (h▸qI ..)
    .exact(d3d h).imp (qJ _) id
   .split at h
    .rcases qO.1 h with h|h;.exact .inr h
     .exact .inl h
    .rcases qO.1 h with h|h
     .split at h;.exact .inr h
      .exact .inl (h▸qI ..)
     .exact .inl (qJ _ h)
def d1g{a b c:aQ}(h1:c2y a b)(h2:c2y b c):c2y a c:=by unfold c2y at*;omega
def e28{f:aQ}:∀{l:O aQ},l.Pairwise c2y->(c4o l f).Pairwise c2y
 |[],_=>pairwise_singleton _ _|a::t,h=>by
   obtain⟨h1,h2⟩:=List.pairwise_cons.1 h;unfold c4o;split
   .rename_i hc;refine List.pairwise_cons.2 ⟨λu hu=>?_,e28 h2⟩;rcases d3d hu with h|h;.exact h1 u h
    .rw[h];exact hc
   .rename_i hn;split
    .rename_i hc;refine List.pairwise_cons.2 ⟨λu hu=>?_,h⟩;rcases qO.1 hu with h|h;.rw[h];exact hc
     .exact d1g hc (h1 u h)
    .rename_i hm;refine List.pairwise_cons.2 ⟨λu hu=>?_,h2⟩;have:=h1 u hu;split;.unfold c2y at*;omega
     .exact this
def j5y(x y:Int):a2c x y=some (if x<y then-1 else if y<x then 1 else 0):=by
 unfold a2c b1d;simp only[bne_self_eq_false,qA,qM,if_false,decide_eq_true_eq];split;.rfl
 .split<;>rfl
def j8c(a b:aQ):i4q a b=some (if c2y a b then-1 else if c2y b a then 1 else 0):=by
 have hor:∀x y:Int,b67 [x,y]=some (if x≠0then x else y):=by
  intro x y;unfold b67;refine a9k (f:=b58 [x,y]) [x,y] (λ(_:Unit)i=>i) (λ_ i=>(1<=i->x=0)/\(2<=i->y=0)) (λo=>o=some (if x≠0then x else y)) (by simp) ?_ ?_ () ⟨λh=>by omega,λh=>by omega⟩
  .rintro rec _ i v hi hv⟨h1,h2⟩;unfold b58;rw[if_pos (by simp at hi⊢;omega),e7 hv,qA,a5g (by simp at hi;omega)];simp at hi;have:i=0\/i=1:=by omega
   rcases this with rfl|rfl
   .simp at hv;subst hv;by_cases hx:x=0;.right;rw[if_neg (by simp[hx])];exact⟨(),rfl,λ_=>hx,λh=>by omega⟩
    .left;rw[if_pos (by simp[hx]),if_pos hx]
   .simp at hv;subst hv;have hx:=h1 (Nat.le_refl _);by_cases hy:y=0;.right;rw[if_neg (by simp[hy])];exact⟨(),rfl,λ_=>hx,λ_=>hy⟩
    .left;rw[if_pos (by simp[hy]),if_neg (by simp[hx])]
  .rintro rec _⟨h1,h2⟩;have hx:=h1 (by simp);have hy:=h2 (by simp);unfold b58;rw[if_neg (by simp),hx,hy];rfl
 unfold i4q;rw[j5y,qA,j5y,qA,hor,qA];congr 1;unfold c2y;by_cases h1:a.Issuer<b.Issuer;.simp[h1]
 .by_cases h2:b.Issuer<a.Issuer
  .have:¬a.Issuer=b.Issuer:=by omega
   have:¬b.Issuer=a.Issuer:=by omega
   simp[*]
  .have e:a.Issuer=b.Issuer:=by omega
   simp[e]
def j1n{a b:aQ}(ha:vld a=true)(hb:vld b=true):i52 a b=some (if d5u a b=true then b else a):=by unfold i52;rw[j2g ha hb,qA];split<;>rfl
def j27:=i3w
def i8y(k:Nat)(d x:O aQ)(hl:x.length+d.length<=2^30):d9 (k+1) j27 (d,[],x)=some (x++d):=by show j27 (d9 k j27) (d,[],x)=_;unfold j27 i3w;dsimp only;rw[o4,qA,if_neg (by simp),p6 (by omega),qA,p6 (by simp;omega),qA,List.append_nil]
def j0k{f:aQ}(hf:vld f=true):∀(d x:O aQ)(k:Nat),(∀u∈d,vld u=true)->x.length+d.length<=2^29->d.length+2<=k->d9 k j27 (d,[f],x)=some (x++c4o d f)
 |[],x,k,_,hl,hk=>by obtain⟨k,rfl⟩:∃j,k=j+1:=⟨k-1,by omega⟩;show j27 (d9 k j27) ([],[f],x)=_;unfold j27 i3w;dsimp only;rw[o4,qA,if_neg (by simp),p6 (by simp at hl⊢;omega),qA,p6 (by simp at hl⊢;omega),qA,List.append_nil];rfl|a::d,x,k,hd,hl,hk=>by
   obtain⟨k,rfl⟩:∃j,k=j+1:=⟨k-1,by omega⟩;simp only[qR]at hl hk;have ha:=hd a (qI ..);have hd':∀u∈d,vld u=true:=λu hu=>hd u (qJ _ hu);have s1:a1x (a::d) 1 ((a::d).length:Int)=some d:=by rw[b26 (by omega) (by simp;omega) (Int.le_refl _)];simp
   have s2:a1x [f] 1 (([f]:O aQ).length:Int)=some []:=by rw[b26 (by omega) (by simp) (Int.le_refl _)];rfl
   have ih:=j0k hf d (x++[a]) k hd' (by simp;omega) (by omega);show j27 (d9 k j27) (a::d,[f],x)=_;generalize hLP:d9 k j27=LP at ih;unfold j27 i3w;dsimp only;have g1:c7 (a::d) 0=some a:=rfl;have g2:c7 [f] 0=some f:=rfl;rw[o4,qA,if_pos (by simp)];simp only[g1,g2,qA,j8c];unfold c4o;by_cases h1:c2y a f;.rw[if_pos h1,if_pos h1,if_pos (by decide),p6 (by simp;omega),qA,s1,qA,ih];simp
   .rw[if_neg h1,if_neg h1];by_cases h2:c2y f a;.rw[if_pos h2,if_pos h2,if_neg (by decide),if_pos (by decide),p6 (by simp;omega),qA,s2,qA,<-hLP];obtain⟨k,rfl⟩:∃j,k=j+1:=⟨k-1,by omega⟩;rw[i8y k (a::d) (x++[f]) (by simp;omega)];simp
    .rw[if_neg h2,if_neg h2,if_neg (by decide),if_neg (by decide)];rw[j1n ha hf,qA,p6 (by simp;omega),qA,s1,qA,s2,qA,<-hLP];obtain⟨k,rfl⟩:∃j,k=j+1:=⟨k-1,by omega⟩;rw[i8y k d _ (by simp;omega)];simp
def e16(l:O aQ):O aQ:=(l.filter vld).foldl c4o []
def d2h:∀(l out:O aQ),(∀u∈l,vld u=true)->(∀u∈out,vld u=true)->out.Pairwise c2y->(∀u∈l.foldl c4o out,vld u=true)/\(l.foldl c4o out).Pairwise c2y/\(l.foldl c4o out).length<=out.length+l.length|[],out,_,h2,h3=>⟨h2,h3,by simp⟩|f::l,out,h1,h2,h3=>by have:=d2h l (c4o out f) (λu hu=>h1 u (qJ _ hu)) (λu hu=>(d3d hu).elim (h2 u) (λe=>e▸h1 f (qI ..))) (e28 h3);have hl:=e3n f out;refine⟨this.1,this.2.1,?_⟩;have:=this.2.2;simp only[List.foldl_cons,qR]at this⊢;omega
def e9u(l:O aQ):(∀u∈e16 l,vld u=true)/\(e16 l).Pairwise c2y/\(e16 l).length<=l.length:=by have:=d2h (l.filter vld) [] (λu hu=>(List.mem_filter.1 hu).2) (λu h=>(by cases h)) .nil;refine⟨this.1,this.2.1,?_⟩;have h2:=length_filter_le vld l;have:=this.2.2;simp only[qS]at this;unfold e16;omega
def e8t(l:O aQ)(y:aQ):e16 (l++[y])=if vld y=true then c4o (e16 l) y else e16 l:=by unfold e16;rw[filter_append,foldl_append];cases h:vld y<;>simp[h]
def i5b(l:O aQ)(hl:l.length<=2^20):i4i l=some (e16 l):=by
 unfold i4i;refine a9k (f:=i4f l) l (λs i=>(s,i)) (λs i=>s=e16 (l.take i)) (λo=>o=some (e16 l)) (by omega) ?_ ?_ [] (by simp[e16]);.rintro rec s i y hi hy rfl;right;refine⟨_,?_,rfl⟩;have ho:=e9u (l.take i);rw[List.length_take]at ho;unfold i4f;dsimp only;rw[if_pos (by simp;omega),e7 hy,qA,d1t,qA,a5g (by omega),a9h hy,e8t];cases hv:vld y with|false=>rw[if_neg (by simp),if_neg (by simp)]|true=>
    rw[if_pos rfl,if_pos rfl];have hm:i3v (e16 (l.take i)) [y]=some (c4o (e16 (l.take i)) y):=by have:=j0k hv (e16 (l.take i)) [] FU ho.1 (by simp;omega) (by unfold FU;omega);rw[List.nil_append]at this;exact this
    rw[hm,qA]
 .rintro rec s rfl;unfold i4f;dsimp only;rw[if_neg (by simp),List.take_length]
def j1m(l:O aQ)(hl:l.length<=2^20):i4d l []=some (e16 l):=by
 have ho:=e9u l;unfold i4d;rw[i5b l hl,qA,i5b [] (by simp),qA];have hm:i3v (e16 l) (e16 [])=some (e16 l):=by have e:FU=1180591620717411303423+1:=rfl;have:=i8y 1180591620717411303423 (e16 l) [] (by simp;omega);rw[<-e]at this;exact this
 rw[hm];rfl
end Go.PL
namespace Go.PL
open Go Go.Sort
def InS(l:O Span)(x:Int):Prop:=∃s∈l,s.From<=x/\x<s.To
def d0f{x:Int}:¬InS [] x:=by rintro⟨s,h,_⟩;grind
def b6n{a b:O Span}{x:Int}:InS (a++b) x↔InS a x\/InS b x:=by
 constructor
 .rintro⟨s,h,h1⟩;rcases qK.1 h with h|h;.exact .inl ⟨s,h,h1⟩
  .exact .inr ⟨s,h,h1⟩
 .rintro(⟨s,h,h1⟩|⟨s,h,h1⟩);.exact⟨s,List.mem_append_left _ h,h1⟩
  .exact⟨s,List.mem_append_right _ h,h1⟩
def b9k{s:Span}{x:Int}:InS [s] x↔s.From<=x/\x<s.To:=by
 constructor;.rintro⟨t,h,h1⟩;simp_all
 .intro h;exact⟨s,qF.2 rfl,h⟩
def c7i{s:Span}{b:O Span}{x:Int}:InS (s::b) x↔(s.From<=x/\x<s.To)\/InS b x:=by have:=@b6n [s] b x;rw[b9k]at this;simp_all
def f6z{a b:O Span}(h:a.Perm b){x:Int}:InS a x↔InS b x:=by
 constructor;.rintro⟨s,hs,h1⟩;exact⟨s,h.mem_iff.1 hs,h1⟩
 .rintro⟨s,hs,h1⟩;exact⟨s,h.mem_iff.2 hs,h1⟩
def Nrm(l:O Span):Prop:=(∀s∈l,0<=s.From/\s.From<s.To/\s.To<=73049)/\l.Pairwise (λa b=>a.To<b.From)
def d9x:Nrm []:=⟨λ_ h=>(by grind),List.Pairwise.nil⟩
def b9y{a:O Span}{s:Span}:Nrm (a++[s])↔Nrm a/\(∀t∈a,t.To<s.From)/\0<=s.From/\s.From<s.To/\s.To<=73049:=by
 unfold Nrm;rw[pairwise_append];constructor;.rintro⟨h1,h2,h3,h4⟩;exact⟨⟨λt ht=>h1 t (List.mem_append_left _ ht),h2⟩,λt ht=>h4 t ht s (qF.2 rfl),h1 s (List.mem_append_right _ (qF.2 rfl))⟩
 .rintro⟨⟨h1,h2⟩,h3,h4⟩;refine⟨λt ht=>?_,h2,pairwise_singleton _ _,λt ht u hu=>?_⟩;.rcases qK.1 ht with h|h;all_goals simp_all
  simp_all
def d4p{a:O Span}{s:Span}:Nrm (s::a)↔Nrm a/\(∀t∈a,s.To<t.From)/\0<=s.From/\s.From<s.To/\s.To<=73049:=by
 unfold Nrm;constructor;.simp_all
 simp_all
def c3n{l:O Span}(h:Nrm l):l.length<=73049:=by
 have key:∀(l:O Span),Nrm l->∀s∈l.getLast?,(l.length:Int)<=s.To:=by
  intro l;have:∀(r:O Span),Nrm r.reverse->∀s∈r.head?,(r.length:Int)<=s.To:=by intro r;induction r with|nil=>simp_all|cons u r ih=>intro hn s hs;rw[reverse_cons]at hn;obtain⟨h1,h2,h3⟩:=b9y.1 hn;cases r with|nil=>grind|cons v r=>have b:=h2 v (by simp);grind
  intro hn s hs;have:=this l.reverse (by simp_all) s (by simp_all);simp_all
 rcases h1f l with rfl|⟨a,t,rfl⟩;.simp_all
 .have a:=key _ h t (by simp);have b:=(b9y.1 h).2.2;omega
def g7w:SWO (λx y:Span=>decide (x.From<y.From)):=by constructor;all_goals grind
def e7s(l:O Span)(h:l.length<4611686018427387904):∃r,b3w l=some r/\r.Perm l/\r.Pairwise (λa b=>a.From<=b.From):=by
 unfold b3w f0f;by_cases h1:l.length<=1;.rw[if_pos h1];match l,h1 with|[],_=>simp_all|[x],_=>simp_all
 .rw[if_neg h1,if_pos h];have hp:=pdq_sorts (λx y:Span=>decide (x.From<y.From)) g7w l.toArray 0 l.toArray.size (Lib.bitLen l.toArray.size) true true (Nat.zero_le _) (Nat.le_refl _) (Or.inl rfl);rw[List.size_toArray]at hp;generalize pdq (λx y:Span=>decide (x.From<y.From)) l.toArray 0 l.length (Lib.bitLen l.length) true true=d at hp⊢;obtain⟨⟨p1,p2,p3⟩,p4⟩:=hp;have p1':d.size=l.length:=by omega
  have e1:d.extract 0 l.length=d:=by rw[<-p1'];simp
  have e2:l.toArray.extract 0 l.length=l.toArray:=by simp
  rw[e1,e2]at p3;refine⟨d.toList,rfl,by omega,?_⟩;rw[pairwise_iff_getElem];intro i j hi hj hij;have:=p4 i j (Nat.zero_le _) hij (by grind);have hi':i<d.size:=by omega
  have hj':j<d.size:=by omega
  simp only[decide_eq_false_iff_not]at this;rw[getElem!_pos d j hj',getElem!_pos d i hi']at this;simp only[Array.getElem_toList];omega
set_option maxHeartbeats 1000000 in
def e6o (l:O Span)(hl:l.length <= 2^40)(hs:l.Pairwise (λ a b=>a.From <= b.From))(hr: ∀s∈l,0 <= s.From /\ s.From<s.To /\ s.To <= 73049)(Q:A3 (O Span) -> Prop)
  (hQ: ∀r,Nrm r -> (∀x,InS r x↔InS l x) -> r.length <= l.length -> Q (some r)):Q (d9 FU (b2e l) ([],l,0)):=by
 refine a9k (f:=b2e l) l (λ s i=>(s,l,i)) (λ s i=>Nrm s /\ (∀x,InS s x↔InS (l.take i) x) /\ s.length <= i /\ ∀t∈s,∃u∈l.take i,u.From=t.From) Q (by omega) ?_ ?_ [] ⟨d9x,λ x=>by simp,Nat.le_refl _,λ t h=>by cases h⟩
 ·rintro rec s i y hi hy ⟨h1,h2,h3,h4⟩
  right
  have hyl:y∈l:=qE hy
  have hyr:=hr y hyl
  unfold b2e
  dsimp only
  rw [if_pos (by simp;omega),e7 hy,qA,qA,a5g (by omega),a9h hy]
  have hord: ∀u∈l.take i,u.From <= y.From:=by
   intro u hu
   have hi':=qG hi
   rw [hy] at hi'
   have e:l=l.take i++l.drop i:=(List.take_append_drop i l).symm
   rw [e,pairwise_append] at hs
   refine hs.2.2 u hu y ?_
   rw [qH hi',List.drop_eq_getElem_cons hi];exact qI ..
  rcases h1f s with rfl | ⟨a,t,rfl⟩
  ·simp only [qS,Int.natCast_zero,Int.lt_irrefl,decide_false,qM,if_false,qA]
   rw [p6 (by simp),qA]
   refine ⟨[y],rfl,?_,λ x=> ?_,by simp,?_⟩
   ·have:=b9y (a:=[]) (s:=y);simp only [List.nil_append] at this;rw [this];exact ⟨d9x,λ t h=>(by cases h),hyr⟩
   ·have:=h2 x
    rw [b6n,<- this];simp [d0f]
   ·intro t ht;rw [qF] at ht;subst ht;exact ⟨t,by simp,rfl⟩
  ·obtain ⟨n1,n2,n3⟩:=b9y.1 h1
   have hlen:a.length<2^62:=by rw [qL] at h3;simp at h3;omega
   have htf:t.From <= y.From:=by
    obtain ⟨u,hu,he⟩:=h4 t (by simp)
    have:=hord u hu;omega
   rw [if_pos (by rw [qL];simp),d3s a t hlen,qA,qA,qA]
   by_cases hc:y.From <= t.To
   ·rw [if_pos (by simpa using hc),qA,qA,qA,qA,d3y a t _ hlen]
    refine ⟨a++[(⟨t.From,max t.To y.To⟩:Span)],rfl,?_,λ x=> ?_,by simp at h3 ⊢; omega,?_⟩
    ·rw [b9y];exact ⟨n1,n2,by dsimp only;omega,by dsimp only;omega,by dsimp only;omega⟩
    ·have:=h2 x
     rw [b6n,b9k] at this
     rw [b6n,b6n,<- this,b9k,b9k]
     dsimp only
     by_cases hax:InS a x
     ·simp [hax]
     ·simp only [hax,false_or];omega
    ·intro v hv
     rcases qK.1 hv with hv | hv
     ·obtain ⟨u,hu,he⟩:=h4 v (List.mem_append_left _ hv);exact ⟨u,List.mem_append_left _ hu,he⟩
     ·rw [qF] at hv;subst hv
      obtain ⟨u,hu,he⟩:=h4 t (by simp);exact ⟨u,List.mem_append_left _ hu,he⟩
   ·rw [if_neg (by simpa using hc),p6 (by simp at h3 ⊢; omega),qA]
    refine ⟨a++[t]++[y],rfl,?_,λ x=> ?_,by simp at h3 ⊢; omega,?_⟩
    ·rw [b9y]
     refine ⟨h1,λ v hv=> ?_,hyr⟩
     rcases qK.1 hv with hv | hv
     ·have:=n2 v hv;omega
     ·rw [qF] at hv;subst hv;omega
    ·have:=h2 x
     rw [b6n (a:=a++[t]),b6n (a:=l.take i),this]
    ·intro v hv
     rcases qK.1 hv with hv | hv
     ·obtain ⟨u,hu,he⟩:=h4 v hv;exact ⟨u,List.mem_append_left _ hu,he⟩
     ·rw [qF] at hv;subst hv
      exact ⟨v,by simp,rfl⟩
 ·rintro rec s ⟨h1,h2,h3,_⟩
  rw [List.take_length] at h2
  unfold b2e
  dsimp only
  rw [if_neg (by simp)]
  exact hQ s h1 h2 h3
set_option maxHeartbeats 1000000 in
def c1p (d:O Span)(hd:d.length <= 2^40): ∃r,a2w d=some r /\ Nrm r /\ (∀x,InS r x↔InS d x /\ 0 <= x /\ x<73049) /\ r.length <= d.length:=by
 unfold a2w
 refine a9k (f:=b5z d) d (λ s i=>(s,[],i)) (λ s i=>(∀u∈s,0 <= u.From /\ u.From<u.To /\ u.To <= 73049) /\ (∀x,InS s x↔InS (d.take i) x /\ 0 <= x /\ x<73049) /\ s.length <= i)
  (λ o=> ∃r,o=some r /\ Nrm r /\ (∀x,InS r x↔InS d x /\ 0 <= x /\ x<73049) /\ r.length <= d.length) (by omega) ?_ ?_ [] ⟨λ u h=>(by cases h),λ x=>by simp [d0f],Nat.le_refl _⟩
 ·rintro rec s i y hi hy ⟨h1,h2,h3⟩
  right
  unfold b5z c3q
  dsimp only
  rw [if_pos (by simp;omega),e7 hy,qA,a5g (by omega),qA,a9h hy]
  dsimp only
  by_cases hc:max y.From 0<min y.To 73049
  ·rw [if_pos (by simpa using hc),p6 (by simp;omega),qA]
   refine ⟨s++[(⟨max y.From 0,min y.To 73049⟩:Span)],rfl,λ u hu=> ?_,λ x=> ?_,by simp;omega⟩
   ·rcases qK.1 hu with hu | hu
    ·exact h1 u hu
    ·rw [qF] at hu;subst hu;dsimp only;omega
   ·rw [b6n,b6n,h2 x,b9k,b9k]
    dsimp only
    by_cases hax:InS (d.take i) x
    ·simp only [hax,true_and,true_or];omega
    ·simp only [hax,false_and,false_or];omega
  ·rw [if_neg (by simpa using hc)]
   refine ⟨s,rfl,h1,λ x=> ?_,by omega⟩
   rw [b6n,h2 x,b9k]
   by_cases hax:InS (d.take i) x
   ·simp only [hax,true_and,true_or]
   ·simp only [hax,false_and,false_or]
    refine ⟨λ h=>h.elim,λ h=> ?_⟩
    omega
 ·rintro rec s ⟨h1,h2,h3⟩
  rw [List.take_length] at h2
  unfold b5z
  dsimp only
  rw [if_neg (by simp)]
  obtain ⟨q,e,hp,hq⟩:=e7s s (by omega)
  rw [e,qA]
  have hql:=hp.length_eq
  refine e6o q (by omega) hq (λ u hu=>h1 u (hp.mem_iff.1 hu)) (λ o=> ∃r,o=some r /\ Nrm r /\ (∀x,InS r x↔InS d x /\ 0 <= x /\ x<73049) /\ r.length <= d.length) λ r a b c=>⟨r,rfl,a,λ x=> ?_,by omega⟩
  rw [b x,f6z hp,h2 x]
def e20{l:O Span}(h:Nrm l)(i:Nat):Nrm (l.drop i):=⟨λs hs=>h.1 s (mem_of_mem_drop hs),h.2.sublist (drop_sublist i l)⟩
def d6x{l:O Span}{s:Span}(h:Nrm (s::l)){x:Int}(hx:InS l x):s.To<x:=by obtain⟨v,hv,h1⟩:=hx;have:=(d4p.1 h).2.1 v hv;omega
set_option maxHeartbeats 2000000 in
def d0q (a b:O Span)(ha:a.length <= 2^40)(hb:b.length <= 2^40):
  ∃r,b2g a b=some r /\ Nrm r /\ ∀x,InS r x↔InS a x /\ InS b x /\ 0 <= x /\ x<73049:=by
 obtain ⟨z,hz,nz,mz,lz⟩:=c1p a ha
 obtain ⟨w,hw,nw,mw,lw⟩:=c1p b hb
 unfold b2g
 rw [hz,qA,hw,qA]
 refine b9s (f:=b2h)
  (λ st=> ∃(x:O Span)(i j:Nat),st=(z,w,x,(i:Int),(j:Int)) /\ i <= z.length /\ j <= w.length /\ Nrm x /\ (∀d,InS x d -> InS z d /\ InS w d) /\ (∀d,InS z d -> InS w d -> InS x d \/ (InS (z.drop i) d /\ InS (w.drop j) d)) /\
   (∀t∈x,∀y1∈z.drop i,∀y2∈w.drop j,t.To<max y1.From y2.From) /\ x.length <= i+j)
  (λ st=>z.length+w.length-st.2.2.2.1.toNat-st.2.2.2.2.toNat) _ ⟨[],0,0,rfl,Nat.zero_le _,Nat.zero_le _,d9x,λ d h=>absurd h d0f,λ d h1 h2=> .inr (by simpa using ⟨h1,h2⟩),λ t h=>(by cases h),Nat.zero_le _⟩ (by dsimp only;omega) ?_
 rintro st rec ⟨x,i,j,rfl,hi,hj,n,m1,m2,m3,hl⟩
 unfold b2h
 dsimp only
 rw [o4,qA]
 by_cases hc:i<z.length /\ j<w.length
 ·right
  obtain ⟨hi',hj'⟩:=hc
  rw [if_pos (by simp;omega)]
  obtain ⟨y1,e1⟩: ∃y1,z[i]? =some y1:=⟨_,qG hi'⟩
  obtain ⟨y2,e2⟩: ∃y2,w[j]? =some y2:=⟨_,qG hj'⟩
  have d1:=d36 e1
  have d2:=d36 e2
  have nd1:Nrm (y1::z.drop (i+1)):=d1▸e20 nz i
  have nd2:Nrm (y2::w.drop (j+1)):=d2▸e20 nw j
  rw [d1,d2] at m2 m3
  have i1:InS z=InS z:=rfl
  have z1: ∀d,y1.From <= d /\ d<y1.To -> InS z d:=λ d h=>⟨y1,qE e1,h⟩
  have z2: ∀d,y2.From <= d /\ d<y2.To -> InS w d:=λ d h=>⟨y2,qE e2,h⟩
  have b1:=(d4p.1 nd1).2
  have b2:=(d4p.1 nd2).2
  have next: ∀x':O Span,Nrm x' -> (∀d,InS x' d↔InS x d \/ ((y1.From <= d /\ d<y1.To) /\ (y2.From <= d /\ d<y2.To))) -> (∀t∈x',t∈x \/ t.To=min y1.To y2.To) -> x'.length <= i+j+1 ->
    ∃s',Go.SX.joinC (a92 rec) (z,w,x',(i:Int),(j:Int))=rec s' /\ (∃(x:O Span)(i j:Nat),s'=(z,w,x,(i:Int),(j:Int)) /\ i <= z.length /\ j <= w.length /\ Nrm x /\ (∀d,InS x d -> InS z d /\ InS w d) /\ (∀d,InS z d -> InS w d -> InS x d \/ (InS (z.drop i) d /\ InS (w.drop j) d)) /\
     (∀t∈x,∀y1∈z.drop i,∀y2∈w.drop j,t.To<max y1.From y2.From) /\ x.length <= i+j) /\ z.length+w.length-s'.2.2.2.1.toNat-s'.2.2.2.2.toNat<z.length+w.length-(i:Int).toNat-(j:Int).toNat:=by
   intro x' n' q1 q2 q3
   rw [b7k];unfold a92;dsimp only
   simp only [e7 e1,e7 e2,qA]
   rw [a5g (by omega),a5g (by omega)]
   have q4: ∀d,InS x' d -> InS z d /\ InS w d:=by
    intro d hd
    rcases (q1 d).1 hd with h | h
    ·exact m1 d h
    ·exact ⟨z1 d h.1,z2 d h.2⟩
   by_cases hlt:y1.To<y2.To
   ·rw [if_pos (by simpa using hlt)]
    refine ⟨_,rfl,⟨x',i+1,j,rfl,by omega,by omega,n',q4,λ d h1 h2=> ?_,λ t ht v1 hv1 v2 hv2=> ?_,by omega⟩,by simp only [Int.toNat_natCast];omega⟩
    ·rcases m2 d h1 h2 with h | ⟨h,h'⟩
     ·exact .inl ((q1 d).2 (.inl h))
     ·rcases c7i.1 h with g | g
      ·rcases c7i.1 h' with g' | g'
       ·exact .inl ((q1 d).2 (.inr ⟨g,g'⟩))
       ·have:=d6x nd2 g';omega
      ·right;rw [d2];exact ⟨g,h'⟩
    ·rw [d2] at hv2
     rcases q2 t ht with h | h
     ·exact m3 t h v1 (qJ _ hv1) v2 hv2
     ·have:=b1.1 v1 hv1;omega
   ·rw [if_neg (by simpa using hlt)]
    refine ⟨_,rfl,⟨x',i,j+1,rfl,by omega,by omega,n',q4,λ d h1 h2=> ?_,λ t ht v1 hv1 v2 hv2=> ?_,by omega⟩,by simp only [Int.toNat_natCast];omega⟩
    ·rcases m2 d h1 h2 with h | ⟨h,h'⟩
     ·exact .inl ((q1 d).2 (.inl h))
     ·rcases c7i.1 h' with g' | g'
      ·rcases c7i.1 h with g | g
       ·exact .inl ((q1 d).2 (.inr ⟨g,g'⟩))
       ·have:=d6x nd1 g;omega
      ·right;rw [d1];exact ⟨h,g'⟩
    ·rw [d1] at hv1
     rcases q2 t ht with h | h
     ·exact m3 t h v1 hv1 v2 (qJ _ hv2)
     ·have:=b2.1 v2 hv2;omega
  simp only [e7 e1,e7 e2,qA]
  by_cases ho:max y1.From y2.From<min y1.To y2.To
  ·rw [if_pos (by simpa using ho),p6 (by simp;omega),qA]
   refine next _ (b9y.2 ⟨n,λ t ht=>m3 t ht y1 (qI ..) y2 (qI ..),by dsimp only;omega,by dsimp only;omega,by dsimp only;omega⟩) (λ d=> ?_) (λ t ht=> ?_) (by simp;omega)
   ·rw [b6n,b9k];dsimp only
    by_cases hx:InS x d
    ·simp [hx]
    ·simp only [hx,false_or];omega
   ·rcases qK.1 ht with h | h
    ·exact .inl h
    ·rw [qF] at h;subst h;exact .inr rfl
  ·rw [if_neg (by simpa using ho)]
   refine next _ n (λ d=> ?_) (λ t ht=> .inl ht) (by omega)
   by_cases hx:InS x d
   ·simp [hx]
   ·simp only [hx,false_or]
    refine ⟨λ h=>h.elim,λ h=> ?_⟩
    omega
 ·left
  rw [if_neg (by simp;omega)]
  refine ⟨x,rfl,n,λ d=> ?_⟩
  have:InS x d↔InS z d /\ InS w d:=by
   refine ⟨m1 d,λ h=> ?_⟩
   rcases m2 d h.1 h.2 with h | ⟨h1,h2⟩
   ·exact h
   ·exfalso
    by_cases hi':i<z.length
    ·rw [List.drop_eq_nil_of_le (by omega)] at h2;exact d0f h2
    ·rw [List.drop_eq_nil_of_le (by omega)] at h1;exact d0f h1
  rw [this,mz,mw]
  constructor
  ·rintro ⟨⟨h1,h2,h3⟩,h4,_⟩;exact ⟨h1,h4,h2,h3⟩
  ·rintro ⟨h1,h4,h2,h3⟩;exact ⟨⟨h1,h2,h3⟩,h4,h2,h3⟩
def c95(a:O Span)(s:Span)(ha:a.length<=2^40):∃r,s6 a s=some r/\Nrm r/\∀x,InS r x↔InS a x/\(s.From<=x/\x<s.To)/\0<=x/\x<73049:=by obtain⟨r,h1,h2,h3⟩:=d0q a [s] ha (by simp);refine⟨r,by unfold s6;simp_all,h2,λx=>?_⟩;rw[h3,b9k]
def inB(l:O Span)(x:Int):Bool:=l.any λs=>decide (s.From<=x)&&decide (x<s.To)
end Go.PL
namespace Go.PL
open Go Go.SX
def c03(l:O Span)(d:Int)(hl:l.length<=2^30):a8r l d=some ((decide (0<=d)&&decide (d<=73048))&&inB l d):=by
 unfold a8r;rw[y3,qA];obtain⟨n,h1,h2⟩:=c5d (f:=o5 l d) l (λs=>decide (s.From<=d)&&decide (d<s.To)) hl (λrec i y hy=>by have hi:=(qD.1 hy).1;unfold o5 b5c;rw[if_pos (o6 hi)];simp only[e7 hy,qA,o4]) λrec=>by unfold o5;simp_all
 have e:(decide (d<0)||decide (d>=73049))=!(decide (0<=d)&&decide (d<=73048)):=by grind
 rw[e];cases hc:(decide (0<=d)&&decide (d<=73048));.rfl
 .unfold s8 y4;rw[h1,qA,qA,h2];rfl
def h3z{x:Int}(h0:0<=x):c8u .u64 x 32=x/4294967296:=by exact Int.fdiv_eq_ediv_of_nonneg _ (by decide)
def g84{x n:Int}(h0:0<=x):0<=c8u .u64 x n/\c8u .u64 x n<=x:=by unfold c8u;have hp:(0:Int)<2^(min n.toNat IntKind.u64.bits):=Int.pow_pos (by decide);rw[Int.fdiv_eq_ediv_of_nonneg _ (Int.le_of_lt hp)];exact⟨Int.ediv_nonneg h0 (Int.le_of_lt hp),Int.ediv_le_self _ h0⟩
def c5u{k:IntKind}{x n:Int}(h:0<=n):d0l k x n=some (c8u k x n):=by unfold d0l;simp_all
def e1w{k:IntKind}{x n:Int}(h:0<=n):g2a k x n=some (e70 k x n):=by unfold g2a;simp_all
def g53{x n:Int}{j:Nat}(h0:0<=x)(hn:n=(j:Int))(hj:j<=64):c8u .u64 x n=x/(2^j:Int):=by
 unfold c8u;have e1:min ((j:Int).toNat) IntKind.u64.bits=j:=by simp only[Int.toNat_natCast,IntKind.bits];omega
 grind
def g3r{x n:Int}{j:Nat}(hn:n=(j:Int))(hj:j<=64):e70 .u64 x n=u64 (x*2^j):=by
 subst hn;unfold e70;have e1:min ((j:Int).toNat) IntKind.u64.bits=j:=by simp only[Int.toNat_natCast,IntKind.bits];omega
 rw[e1];rfl
def f6s:(List.range 256).all (λk=>(b3c b3u (k:Int))==some ((if k=0then 0 else Nat.log2 k+1:Nat):Int))=true:=by kernel_rfl
def g4q{k:Nat}(hk:k<256):b3c b3u (k:Int)=some ((if k=0then 0 else Nat.log2 k+1:Nat):Int):=by have:=qX.1 f6s k (List.mem_range.2 hk);simp_all
def f5x{k:Nat}(h0:0<k)(hk:k<256):∃z:Nat,b3c b3u (k:Int)=some (z:Int)/\1<=z/\z<=8/\2^(z-1)<=k/\k<2^z:=by
 refine⟨Nat.log2 k+1,?_,by omega,?_,?_,Nat.lt_log2_self⟩;.rw[g4q hk,if_neg (by omega)]
 .have:Nat.log2 k<8:=(Nat.log2_lt (by omega)).2 hk;omega
 .exact Nat.log2_self_le (by omega)
def f3q{x:Nat}(h0:0<x)(h1:x<18446744073709551616):∃z:Nat,b8x (x:Int)=some (z:Int)/\1<=z/\z<=64/\2^(z-1)<=x/\x<2^z:=by
 have sh:∀(y j:Nat),j<=64->d0l .u64 (y:Int) (j:Int)=some ((y/2^j:Nat):Int):=by intro y j hj;rw[c5u (by omega),g53 (Int.natCast_nonneg y) rfl hj];simp
 have up:∀(y j z:Nat),1<=z->2^(z-1)<=y/2^j->y/2^j<2^z->2^(j+z-1)<=y/\y<2^(j+z):=by
  intro y j z hz h1 h2;have e1:2^(j+z-1)=2^(z-1)*2^j:=by rw[<-Nat.pow_add];congr 1;omega
  have e2:2^(j+z)=2^z*2^j:=by rw[<-Nat.pow_add,Nat.add_comm]
  have hp:0<2^j:=Nat.pos_of_ne_zero (by simp);exact⟨by rw[e1];exact(Nat.le_div_iff_mul_le hp).1 h1,by rw[e2];exact(Nat.div_lt_iff_lt_mul hp).1 h2⟩
 have j3:∀(y n:Nat),0<y->y<256->n<=56->∃z:Nat,(Option.bind (b3c b3u (IntKind.u8.wrap (y:Int))) λv=>some (i64 ((n:Int)+i64 v)))=some ((n+z:Nat):Int)/\1<=z/\z<=8/\2^(z-1)<=y/\y<2^z:=by
  intro y n hy0 hy hn;obtain⟨z,hz,a1,a2,a3,a4⟩:=f5x hy0 hy;refine⟨z,?_,a1,a2,a3,a4⟩;have:(IntKind.u8.wrap) (y:Int)=(y:Int):=by rw[IntKind.wrap_u8];omega
  rw[this,hz,qA,e9 (n:=(z:Int)) (by omega) (by omega),e9 (by omega) (by omega)];rfl
 have j2:∀(y n:Nat),0<y->y<65536->n<=48->∃z:Nat,b62 ((y:Int),(n:Int))=some ((n+z:Nat):Int)/\1<=z/\z<=16/\2^(z-1)<=y/\y<2^z:=by
  intro y n hy0 hy hn;unfold b62;by_cases h:256<=y;.rw[if_pos (by simp;omega),show(8:Int)=((8:Nat):Int)from rfl,sh y 8 (by decide),qA,e9 (n:=(n:Int)+((8:Nat):Int)) (by omega) (by omega)];obtain⟨z,hz,a1,a2,a3,a4⟩:=j3 (y/2^8) (n+8) (by omega) (by omega) (by omega);have:=up y 8 z a1 a3 a4;refine⟨8+z,?_,by omega,by omega,this.1,this.2⟩;rw[show((n:Int)+((8:Nat):Int))=((n+8:Nat):Int)by simp,hz];congr 2;omega
  .rw[if_neg (by simp;omega)];obtain⟨z,hz,a1,a2,a3,a4⟩:=j3 y n hy0 (by omega) (by omega);exact⟨z,hz,a1,by omega,a3,a4⟩
 have j1:∀(y n:Nat),0<y->y<4294967296->n<=32->∃z:Nat,b65 ((y:Int),(n:Int))=some ((n+z:Nat):Int)/\1<=z/\z<=32/\2^(z-1)<=y/\y<2^z:=by
  intro y n hy0 hy hn;unfold b65;simp only[b7k];by_cases h:65536<=y;.rw[if_pos (by simp;omega),show(16:Int)=((16:Nat):Int)from rfl,sh y 16 (by decide),qA,e9 (n:=(n:Int)+((16:Nat):Int)) (by omega) (by omega)];obtain⟨z,hz,a1,a2,a3,a4⟩:=j2 (y/2^16) (n+16) (by omega) (by omega) (by omega);have:=up y 16 z a1 a3 a4;refine⟨16+z,?_,by omega,by omega,this.1,this.2⟩;rw[show((n:Int)+((16:Nat):Int))=((n+16:Nat):Int)by simp,hz];congr 2;omega
  .rw[if_neg (by simp;omega)];obtain⟨z,hz,a1,a2,a3,a4⟩:=j2 y n hy0 (by omega) (by omega);exact⟨z,hz,a1,by omega,a3,a4⟩
 unfold b8x;simp only[b7k];by_cases h:4294967296<=x;.rw[if_pos (by simp;omega),show(32:Int)=((32:Nat):Int)from rfl,sh x 32 (by decide),qA];obtain⟨z,hz,a1,a2,a3,a4⟩:=j1 (x/2^32) 32 (by omega) (by omega) (by omega);have:=up x 32 z a1 a3 a4;exact⟨32+z,hz,by omega,by omega,this.1,this.2⟩
 .rw[if_neg (by simp;omega)];obtain⟨z,hz,a1,a2,a3,a4⟩:=j1 x 0 h0 (by omega) (by omega);exact⟨z,by rw[<-Nat.zero_add z];omega,a1,by omega,a3,a4⟩
def lead{p:Int}(h0:0<p)(h1:p<18446744073709551616):∃z:Nat,a7n p=some (z:Int)/\z<=63/\9223372036854775808<=p*2^z/\p*2^z<18446744073709551616:=by
 obtain⟨z,hz,a1,a2,a3,a4⟩:=f3q (x:=p.toNat) (by omega) (by omega);have hp:((p.toNat:Nat):Int)=p:=by omega
 rw[hp]at hz;refine⟨64-z,?_,by omega,?_,?_⟩;.unfold a7n;rw[hz,qA,e9 (by omega) (by omega)];grind
 .have h2:2^(z-1)*2^(64-z)<=p.toNat*2^(64-z):=Nat.mul_le_mul_right _ a3;rw[<-Nat.pow_add,show z-1+(64-z)=63by omega]at h2;grind
 .have h2:p.toNat*2^(64-z)<2^z*2^(64-z):=Nat.mul_lt_mul_of_pos_right a4 (Nat.pos_of_ne_zero (by simp));rw[<-Nat.pow_add,show z+(64-z)=64by omega]at h2;grind
def e3h(v:Int×Int×Int×Int×Int×Int)(h:0<=v.2.1):Tot (b5x v) λr=>0<=r.2/\r.2<18446744073709551616:=by unfold b5x;rw[c5u h,qA];have h2:=b51 (u64 (u64 (v.2.2.2.2.1*4294967296)+v.2.2.1)-u64 (v.2.2.2.2.2*v.1));have h3:=g84 (n:=v.2.1) h2.1;exact tC ⟨h3.1,by omega⟩
def e8v(a b:Int):0<=orK .u64 a b/\orK .u64 a b<=18446744073709551615:=b51 _
def d6u{A y:Int}(h0:0<=A)(h1:A<=18446744073709551615)(hy:2147483648<=y)(hy2:y<4294967296):0<=u64 (A-u64 (u64 (A.tdiv y)*y))/\u64 (A-u64 (u64 (A.tdiv y)*y))<4294967296:=by
 have e1:A.tdiv y=A/y:=c7w h0;have h2:0<=A/y:=Int.ediv_nonneg h0 (by omega);have h4:A/y<=A:=Int.ediv_le_self _ h0;have h5:0<=A/y*y:=Int.mul_nonneg h2 (by omega);have h6:A-A/y*y=A%y:=by rw[Int.mul_comm];exact(Int.emod_def A y).symm
 have h7:=Int.emod_nonneg A (by omega:y≠0);have h8:=Int.emod_lt_of_pos A (by omega:0<y);rw[e1,b83 (n:=A/y) (by omega) (by omega),b83 (n:=A/y*y) (by omega) (by omega),h6,b83 (by omega) (by omega)];omega
def f7r(v:Int×Int×Int×Int×Int×Int×Int×Int)(hz:0<=v.2.1)(hq:2147483648<=v.2.2.1)(hq2:v.2.2.1<4294967296):Tot (b31 v) λr=>0<=r.2/\r.2<18446744073709551616:=by unfold b31;have hA:=b51 ((u64 ((u64 (v.2.2.2.2.1*4294967296))+v.2.2.2.2.2.1))-(u64 (v.2.2.2.2.2.2.2*v.1)));rw[if_neg (by omega),qA];obtain⟨r2,r3⟩:=d6u hA.1 hA.2 hq hq2;refine tO (I:=λs:Int×Int=>0<=s.1/\s.1<4294967296) (μ:=λs=>(4294967296-s.1).toNat) ⟨r2,r3⟩ (by omega) ?_;rintro rec⟨x3,x4⟩⟨h3,h4⟩ih;unfold c4t;rw[a1z,qA];refine tD (λ_=>tD (λ_=>tJ (e3h _ hz)) λhlt=>?_) λ_=>tJ (e3h _ hz);simp only[decide_eq_true_eq]at hlt;rw[b83 (n:=x3+v.2.2.1) (by omega) (by omega)]at hlt⊢;exact ih _ ⟨by omega,by omega⟩ (by omega)
def c4l{d i p:Int}(hd:0<=d)(hi:0<=i)(hi1:i<18446744073709551616)(hp0:d<p)(hp:p<18446744073709551616):Tot (a8o d i p) λr=>0<=r.2/\r.2<18446744073709551616:=by
 unfold a8o;rw[if_neg (by grind)];refine tJ ?_;unfold b9j;rw[if_neg (by simp_all)];refine tJ ?_;unfold b9t;dsimp only;refine tD (λ_=>?_) λh0=>?_;.rw[if_neg (by omega),qA];exact tA (a3p hi (by omega)) λ_ h=>tC ⟨h.2.1,by omega⟩
 .obtain⟨z,hz,hz1,hz2,hz3⟩:=lead (p:=p) (by omega) hp;have uz:u64 (z:Int)=(z:Int):=b83 (by omega) (by omega);have uz2:u64 (64-(z:Int))=((64-z:Nat):Int):=by rw[b83 (by omega) (by omega)];omega
  rw[hz,qA,uz,uz2,e1w (by omega),qA,c5u (by decide),qA,e1w (by omega),qA,c5u (by omega),qA,e1w (by omega),qA,c5u (by decide),qA];have e3:e70 .u64 p (z:Int)=p*2^z:=by rw[g3r rfl (by omega),b83 (by omega) (by omega)]
  have y1:c8u .u64 (p*2^z) 32=p*2^z/4294967296:=h3z (by omega);rw[e3];have hq:2147483648<=c8u .u64 (p*2^z) 32:=by omega
  have hq2:c8u .u64 (p*2^z) 32<4294967296:=by omega
  have hA:=e8v (e70 .u64 d (z:Int)) (c8u .u64 i ((64-z:Nat):Int));rw[if_neg (by omega),qA];obtain⟨r2,r3⟩:=d6u hA.1 hA.2 hq hq2;refine tO (I:=λs:Int×Int=>0<=s.2/\s.2<4294967296) (μ:=λs=>(4294967296-s.2).toNat) ⟨r2,r3⟩ (by omega) ?_;rintro rec⟨x3,x4⟩⟨h3,h4⟩ih;unfold c4k;rw[a1z,qA];have jj:∀q,Tot (b31 (p*2^z,u64 (z:Int),c8u .u64 (p*2^z) 32,d5y .u64 (p*2^z) 4294967295,orK .u64 (e70 .u64 d (z:Int)) (c8u .u64 i ((64-z:Nat):Int)),c8u .u64 (e70 .u64 i (z:Int)) 32,d5y .u64 (e70 .u64 i (z:Int)) 4294967295,q)) λr=>0<=r.2/\r.2<18446744073709551616:=λq=>f7r _ (by dsimp only;omega) hq hq2;refine tD (λ_=>tD (λ_=>tJ (jj _)) λhlt=>?_) λ_=>tJ (jj _);simp only[decide_eq_true_eq]at hlt;rw[b83 (n:=x4+c8u .u64 (p*2^z) 32) (by omega) (by omega)]at hlt⊢;exact ih _ ⟨by omega,by omega⟩ (by omega)
def U64(x:Int):Prop:=0<=x/\x<=18446744073709551615
def I64(x:Int):Prop:=-9223372036854775808<=x/\x<=9223372036854775807
def a3l{a:Int}(h:I64 a):Tot (j5 a) λr=>U64 r/\(a≠0->0<r):=by
 obtain⟨h0,h1⟩:=h;unfold j5 U64;simp only[g2l];refine tD (λhc=>tC ?_) λhc=>tC ?_;.omega
 omega
def c87{a b:Int}(ha:U64 a)(hb:U64 b):Tot (a7g a b) λg=>U64 g/\(0<a+b->0<g):=by
 unfold a7g lpC;refine tO (I:=λv:Int×Int=>U64 v.1/\U64 v.2/\(0<a+b->0<v.1+v.2)) (μ:=λv=>v.2.toNat) ⟨ha,hb,id⟩ (by have:=hb.2;omega) ?_;rintro r⟨x,y⟩⟨g1,g2,g3⟩ih;unfold U64 at*;refine tD (λhc=>?_) λhc=>tC ⟨g1,λh=>?_⟩
 .have hy:y≠0:=by simpa using hc
  refine tA (a3p g1.1 (by omega)) λz hz=>?_;exact ih (y,z) ⟨g2,⟨hz.2.1,by omega⟩,λh=>(by omega)⟩ (by omega)
 .simp at hc;omega
def FOK(f:fQ):Prop:=1<=f.Den/\f.Den<=1000000000/\-1000000000000000<=f.Num/\f.Num<=1000000000000000
def FOK.i{f:fQ}(h:FOK f):I64 f.Num/\I64 f.Den/\f.Den≠0:=by unfold FOK I64 at*;omega
def b2t(f:fQ):Tot (o7 f) λb=>b=true->FOK f:=by
 unfold o7;simp only[a7h,qA,o4];by_cases h:FOK f;.obtain⟨h1,h2,h3⟩:=h.i;rw[if_pos (by unfold FOK at h;simp_all)];refine tA (Q:=λ_=>True) (tA (a3l h1) λa ha=>tA (a3l h2) λb hb=>tA (c87 ha.1 hb.1) λg _=>tC trivial) λb _=>tC λ_=>h
 .rw[if_neg (by unfold FOK at h;grind),qA];exact tC λh=>by grind
def c5x(a:Bool)(b c:rational_wide):Tot (a70 a b c) λ_=>True:=by unfold a70;simp only[y3,qA];exact tD (λ_=>tC trivial) λ_=>tD (λ_=>tC trivial) λ_=>tC trivial
def g0a{a b:Int}(hb:0<b):(if b=0then none else some (u64 (Int.tdiv a b)))=some (u64 (Int.tdiv a b)):=if_neg (by omega)
def e6c(x:Int):U64 (u64 x):=b51 x
def d7p{a d:Int}(ha:I64 a)(hd:I64 d):Tot (b32 a d) λ_=>True:=by
 refine tD (λ_=>tC trivial) λhn=>?_;have hn:d≠0:=by simp_all
 refine tA (a3l ha) λx hx=>tA (a3l hd) λy hy=>tA (c87 hx.1 hy.1) λg hg=>?_;have hx0:=hx.1.1;have hg0:=hg.2 (by omega);refine tA (Q:=λ_=>True) (tD (λ_=>tC trivial) λ_=>tC trivial) λb _=>?_;rw[g0a hg0,qA,g0a hg0,qA];exact tA (c5x _ _ _) λ_ _=>tC trivial
def WW(w:rational_wide):Prop:=U64 w.hi/\U64 w.lo
def c3x(a b:Int):Tot (b3s a b) λr=>U64 r.1/\U64 r.2:=by unfold b3s;exact tC ⟨e6c _,e6c _⟩
def b8l(a b:Int):Tot (a4g a b) WW:=tA (c3x a b) λr h=>tC h
def d3r(a b:rational_wide):Tot (a3u a b) λ_=>True:=by unfold a3u;simp only[o4,a1z,qA];exact tC trivial
def f4i{a b:rational_wide}(ha:WW a)(hb:WW b):Tot (a98 a b) WW:=by unfold WW U64 at*;unfold a98 c23 g7y;rw[if_pos (by omega),qA];rw[if_pos (by omega),qA];exact tC ⟨by grind,by grind⟩
def d7w{a b:rational_wide}(ha:WW a)(hb:WW b):Tot (a4w a b) WW:=by unfold WW U64 at*;unfold a4w c1u g8x;rw[if_pos (by omega),qA];rw[if_pos (by omega),qA];exact tC ⟨by grind,by grind⟩
def f0p{h l d:Int}(hh:U64 h)(hl:U64 l)(hd:U64 d)(h0:0<d):Tot (c25 h l d) U64:=by unfold U64 at*;refine tA (a3p hh.1 h0) λz hz=>tA (c4l hz.2.1 hl.1 (by omega) hz.2.2.1 (by omega)) λq hq=>tC ⟨hq.1,by omega⟩
def e8g{w:rational_wide}{d:Int}(hw:WW w)(hd:U64 d)(h0:0<d):Tot (a8z w d) λ_=>True:=by unfold WW U64 at*;unfold a8z;rw[g0a h0,qA];refine tA (a3p hw.1.1 h0) λz hz=>tA (c4l hz.2.1 hw.2.1 (by omega) hz.2.2.1 (by omega)) λq hq=>tC trivial
def d3c(v:fQ×fQ×fQ×rational_wide×Bool)(h1:FOK v.1)(h2:FOK v.2.1)(hw:WW v.2.2.2.1):Tot (a9g v) λ_=>True:=by unfold a9g j5;have d1:=h1;have d2:=h2;unfold FOK at d1 d2;rw[if_neg (by grind),qA,if_neg (by grind),qA];refine tD (λ_=>tC trivial) λ_=>?_;rw[b83 (n:=v.1.Den) (by omega) (by omega),b83 (n:=v.2.1.Den) (by omega) (by omega)];have p0:0<v.1.Den*v.2.1.Den:=Int.mul_pos (by omega) (by omega);have p1:v.1.Den*v.2.1.Den<=1000000000*1000000000:=Int.mul_le_mul (by omega) (by omega) (by omega) (by omega);rw[b83 (n:=v.1.Den*v.2.1.Den) (by omega) (by omega)];generalize v.1.Den*v.2.1.Den=p at*;have hp:U64 p:=⟨by omega,by omega⟩;refine tA (f0p hw.1 hw.2 hp p0) λz hz=>tA (c87 hp hz) λg hg=>?_;have hz0:=hz.1;have hg0:=hg.2 (by omega);refine tA (e8g hw hg.1 hg0) λw _=>?_;rw[g0a hg0,qA];exact tA (c5x _ _ _) λ_ _=>tC trivial
def f5v(a b:fQ):Tot (Option.bind (o7 a) λv1=>(if(!v1)=true then some true else Option.bind (o7 b) λv2=>some (!v2))) λr=>r=false->FOK a/\FOK b:=by refine tA (b2t a) λx hx=>tD (λ_=>tC λh=>by grind) λh=>tA (b2t b) λy hy=>tC λh2=>⟨hx (by simp_all),hy (by simp_all)⟩
def f1j(a b:fQ):Tot (b4q a b) λ_=>True:=by unfold b4q;rw[b73];refine tA (f5v a b) λc hc=>tD (λ_=>tC trivial) λh=>?_;obtain⟨hA,hB⟩:=hc (by simp_all);obtain⟨a1,a2,a3⟩:=hA.i;obtain⟨b1,b2,b3⟩:=hB.i;refine tA (a3l a1) λx1 _=>tA (a3l b2) λx2 _=>tA (b8l x1 x2) λw hw=>tA (a3l b1) λx3 _=>tA (a3l a2) λx4 _=>tA (b8l x3 x4) λu hu=>?_;refine tD (λ_=>tA (f4i hw hu) λs hs=>tJ (d3c _ hA hB hs)) λ_=>tA (d3r _ _) λ_ _=>tD (λ_=>tA (d7w hu hw) λs hs=>tJ (d3c _ hA hB hs)) λ_=>tA (d7w hw hu) λs hs=>tJ (d3c _ hA hB hs)
def f1i(a:fQ):Tot (b4p a) λ_=>True:=by exact tA (b2t a) λ_ _=>tD (λ_=>tC trivial) λ_=>tC trivial
def g4i(a b:fQ):Tot (b7d a b) λ_=>True:=by exact tA (f1i b) λ_ _=>tD (λ_=>tC trivial) λ_=>tA (f1j _ _) λ_ _=>tC trivial
def c6m(n:Bool){a b c d:Int}(ha:U64 a)(hb:U64 b)(hc:U64 c)(hd:U64 d)(h1:0<a+d)(h2:0<c+b):Tot (a73 n a b c d) λ_=>True:=by refine tA (c87 ha hd) λg hg=>tA (c87 hc hb) λh hh=>?_;have g0:=hg.2 h1;have h0:=hh.2 h2;rw[g0a g0,qA,g0a h0,qA];refine tA (b8l _ _) λ_ _=>?_;rw[g0a h0,qA,g0a g0,qA];exact tA (b8l _ _) λ_ _=>tA (c5x _ _ _) λ_ _=>tC trivial
def g31(a b:fQ):Tot (b7j a b) λ_=>True:=by unfold b7j;rw[b73];refine tA (f5v a b) λc hc=>tD (λ_=>tC trivial) λh=>?_;obtain⟨hA,hB⟩:=hc (by simp_all);obtain⟨a1,a2,a3⟩:=hA.i;obtain⟨b1,b2,b3⟩:=hB.i;simp only[a7h,y3,qA];refine tA (a3l a1) λx1 h1=>tA (a3l a2) λx2 h2=>tA (a3l b1) λx3 h3=>tA (a3l b2) λx4 h4=>?_;have:=h1.1.1;have:=h3.1.1;exact tA (c6m _ h1.1 h2.1 h3.1 h4.1 (by omega) (by omega)) λ_ _=>tC trivial
def g4a(a b:fQ):Tot (b7o a b) λ_=>True:=by unfold b7o;rw[b73];refine tA (f5v a b) λc hc=>tD (λ_=>tC trivial) λh=>tD (λ_=>tC trivial) λhz=>?_;obtain⟨hA,hB⟩:=hc (by simp_all);obtain⟨a1,a2,a3⟩:=hA.i;obtain⟨b1,b2,b3⟩:=hB.i;simp only[a7h,y3,qA];refine tA (a3l a1) λx1 h1=>tA (a3l a2) λx2 h2=>tA (a3l b2) λx3 h3=>tA (a3l b1) λx4 h4=>?_;have:=h4.2 (by simp_all);have:=h1.1.1;exact tA (c6m _ h1.1 h2.1 h3.1 h4.1 (by omega) (by omega)) λ_ _=>tC trivial
def g2q(v:rational_wide×rational_wide):Tot (a83 v) λ_=>True:=by exact tA (d3r _ _) λ_ _=>tD (λ_=>tC trivial) λ_=>tA (d3r _ _) λ_ _=>tD (λ_=>tC trivial) λ_=>tC trivial
def c8o(a b:fQ):Tot (a8g a b) λ_=>True:=by unfold a8g;rw[b73];refine tA (f5v a b) λc hc=>tD (λ_=>tC trivial) λh=>tD (λ_=>tD (λ_=>tC trivial) λ_=>tC trivial) λ_=>?_;obtain⟨hA,hB⟩:=hc (by simp_all);obtain⟨a1,a2,a3⟩:=hA.i;obtain⟨b1,b2,b3⟩:=hB.i;exact tA (a3l a1) λ_ _=>tA (a3l b2) λ_ _=>tA (b8l _ _) λ_ _=>tA (a3l b1) λ_ _=>tA (a3l a2) λ_ _=>tA (b8l _ _) λ_ _=>tD (λ_=>tJ (g2q _)) λ_=>tJ (g2q _)
def e89(a:fQ):Tot (b4e a) λ_=>True:=by refine tA (b2t a) λx hx=>tD (λ_=>tC trivial) λh=>?_;obtain⟨_,_,h3⟩:=(hx (by simp_all)).i;exact tA (b7s h3) λ_ _=>tA (b4f h3) λ_ _=>tD (λ_=>tC trivial) λ_=>tC trivial
def q_nn{a b:Int}(h0:0<=a)(h1:a<=4611686018427387904)(hb:0<b):c2t a b=some (a/b):=by obtain⟨r,e,h,_⟩:=a7t h0 (by omega) hb;grind
def g4m{a b:Int}(h0:0<=a)(hb:0<b):b8t a b=some (a%b):=by obtain⟨r,e,h,_⟩:=a3p h0 hb;grind
def c6s(y mo:Int):Int:=if mo=2then(if(y%4=0/\y%100≠0)\/y%400=0then 29 else 28)else if mo=4\/mo=6\/mo=9\/mo=11then 30 else 31
def d2e(y mo:Int):28<=c6s y mo/\c6s y mo<=31:=by unfold c6s;omega
def b2z{y mo:Int}(hy:0<=y/\y<=100000)(hm:1<=mo/\mo<=12):a05 y mo=some (c6s y mo):=by
 unfold a05 a7l c6s;simp only[g4m hy.1 (by decide:(0:Int)<4),g4m hy.1 (by decide:(0:Int)<100),g4m hy.1 (by decide:(0:Int)<400),qA,o4,y3];by_cases h2:mo=2
 .subst h2;by_cases hl:(y%4=0/\y%100≠0)\/y%400=0;.simp_all
  .rw[if_neg hl,if_neg (by simp_all)];rfl
 .have:(mo==2)=false:=by simp_all
  have hc:mo=1\/mo=3\/mo=4\/mo=5\/mo=6\/mo=7\/mo=8\/mo=9\/mo=10\/mo=11\/mo=12:=by omega
  rcases hc with h|h|h|h|h|h|h|h|h|h|h<;>subst h<;>rfl
def d4z(a:Int):Tot (a90 a) λr=>0<=r/\r<=31:=by unfold a90 b1k;simp only[a7h,qA];refine tD (λ_=>tC (by omega)) λh=>?_;simp at h;rw[q_nn h.1 (by omega) (by omega),qA,g4m h.1 (by omega),qA,e9 (n:=1900+a/12) (by omega) (by omega),e9 (n:=a%12+1) (by omega) (by omega),b2z (by omega) (by omega),qA];have:=d2e (1900+a/12) (a%12+1);exact tC (by omega)
def d6y(a:Int):Tot (b9g a) λ_=>True:=tA (d4z a) λ_ _=>tC trivial
def orT{b:Bool}{o:A3 Bool}(h:Tot o λ_=>True):Tot (if b=true then some true else o) λ_=>True:=tD (λ_=>tC trivial) λ_=>h
def e4o{o:A3 Bool}{Q:Bool->Prop}(h:Tot o Q):Tot (Option.bind o λv=>some (!v)) λ_=>True:=tA h λ_ _=>tC trivial
def b8a(t:O Rate):Tot (a5r t) λr=>r=0->t.length<=40:=by
 refine tD (λ_=>tC λh=>by omega) λh40=>?_;simp at h40;refine tO (I:=λv:Int=>0<=v/\v<=(t.length:Int)) (μ:=λv=>((t.length:Int)-v).toNat) ⟨by omega,by omega⟩ (by omega) ?_;rintro r v⟨g1,g2⟩ih;refine tD (λhc=>?_) λ_=>tC λ_=>(by omega);simp at hc;refine tA (c6 g1 hc) λx _=>?_;unfold a8n b9l;simp only[a7h,qA];refine tA (orT (e4o (d6y _))) λ_ _=>tA (orT (e4o (b2t _))) λ_ _=>tA (orT (tC trivial)) λ_ _=>tA (orT (tC trivial)) λ_ _=>tD (λ_=>tC λ_=>(by omega)) λ_=>?_;refine tA (Q:=λ_=>True) (tD (λhv=>?_) λ_=>tC trivial) λ_ _=>tD (λ_=>tC λ_=>(by omega)) λ_=>?_;.simp at hv;rw[e9 (n:=v-1) (by omega) (by omega)];refine tA (c6 (by omega) (by omega)) λy _=>tA (Q:=λ_=>True) (tD (λ_=>tC trivial) λ_=>tA (c6 (by omega) (by omega)) λz _=>tA (Q:=λ_=>True) (tD (λ_=>tA (c6 (by omega) (by omega)) λ_ _=>tC trivial) λ_=>tC trivial) λ_ _=>tC trivial) λ_ _=>tC trivial
 .rw[a42 g1 (by omega)];exact ih _ ⟨by omega,by omega⟩ (by omega)
def d9a(r:Rounding):Tot (a2y r) λb=>b=true->1<=r.Unit/\r.Unit<=100000:=by
 have j:∀b,Tot (a1c (r,b)) λb=>b=true->1<=r.Unit/\r.Unit<=100000:=λb=>by unfold a1c;simp only[a7h,qA];exact tC λh=>(by simp_all)
 exact tD (λ_=>tJ (j _)) λ_=>tD (λ_=>tJ (j _)) λ_=>tD (λ_=>tJ (j _)) λ_=>tJ (j _)
def c1v(n:Bool){hi lo:Int}(d:Int)(r:Rounding)(h0:U64 hi)(h1:U64 lo)(hr:r.Unit≠0):Tot (a9o n hi lo d r) λq=>1<=r.Unit/\r.Unit<=100000->q.1<=1000000000000:=by
 have z:∀c:Int,Tot (some ((0:Int),c)) λq=>1<=r.Unit/\r.Unit<=100000->q.1<=1000000000000:=λc=>tC λ_=>by dsimp only;omega
 have j3:∀k,Tot (b2f (r,k)) λq=>1<=r.Unit/\r.Unit<=100000->q.1<=1000000000000:=λk=>by
  unfold b2f;dsimp only;rw[e9a hr,qA,e9a hr,qA,y3,qA];refine tD (λ_=>z _) λh=>tC λhU=>?_;simp only[Bool.or_eq_true,decide_eq_true_eq,not_or]at h;rw[Int.tdiv_eq_ediv_of_nonneg (by decide),Int.neg_tdiv,Int.tdiv_eq_ediv_of_nonneg (by decide)]at h;have h2:(1000000000000:Int)/r.Unit<=1000000000000:=Int.ediv_le_self _ (by decide);have h3:0<=(1000000000000:Int)/r.Unit:=Int.ediv_nonneg (by decide) (by omega);rw[e9 (by omega) (by omega),e9 (by omega) (by omega)]at h;have h4:k*r.Unit<=1000000000000:=Int.mul_le_of_le_ediv (by omega) (by omega);have h5:-100000000000000000<=k*r.Unit:=by
   rcases Int.le_total 0 k with g|g;.have:=Int.mul_nonneg g (show 0<=r.Unit by omega);omega
   .have h6:k*100000<=k*r.Unit:=Int.mul_le_mul_of_nonpos_left g hU.2;omega
  dsimp only;rw[e9 (by omega) (by omega)];exact h4
 have j2:∀k b,Tot (a7a (r,k,b)) λq=>1<=r.Unit/\r.Unit<=100000->q.1<=1000000000000:=λk b=>by exact tD (λ_=>tJ (j3 _)) λ_=>tJ (j3 _)
 have j1:∀a b c,Tot (a9e (r,a,b,c)) λq=>1<=r.Unit/\r.Unit<=100000->q.1<=1000000000000:=λa b c=>by exact tD (λ_=>tJ (j2 _ _)) λ_=>tD (λ_=>tJ (j2 _ _)) λ_=>tD (λ_=>tA (orT (tA (Q:=λ_=>True) (tD (λ_=>tA (b4f (by decide)) λ_ _=>tC trivial) λ_=>tC trivial) λ_ _=>tC trivial)) λ_ _=>tJ (j2 _ _)) λ_=>tJ (j2 _ _)
 have hD:=e6c (d*u64 r.Unit);unfold U64 at*;refine tD (λ_=>z _) λh=>?_;simp at h;exact tA (c4l h0.1 h1.1 (by omega) h (by omega)) λ_ _=>tD (λ_=>z _) λ_=>tD (λ_=>tD (λ_=>tJ (j1 _ _ _)) λ_=>tJ (j1 _ _ _)) λ_=>tJ (j1 _ _ _)
def c3w(x:Int):Tot (b3x x) U64:=by exact tD (λ_=>tC (e6c _)) λ_=>tC (e6c _)
def f2v(f:fQ)(r:Rounding):Tot (b9q f r) λq=>q.1<=1000000000000:=by refine tA (b2t f) λx hx=>tA (Q:=λb=>b=false->1<=r.Unit/\r.Unit<=100000) (tD (λ_=>tC λh=>by grind) λ_=>tA (d9a r) λy hy=>tC λh=>hy (by simp_all)) λb hb=>tD (λ_=>tC (by decide)) λh=>?_;have:=hb (by simp_all);exact tA (c3w _) λs hs=>tA (c1v _ _ _ ⟨by omega,by omega⟩ hs (by omega)) λq hq=>tC (hq this)
def d6o(t:O Rate)(c m:Int)(ht:t.length<=40):Tot (b6m t c m) λ_=>True:=by
 unfold b6m lpC;refine tO (I:=λv:fQ×Int×Int=>0<=v.2.2/\v.2.2<=(t.length:Int)/\-1<=v.2.1/\v.2.1<v.2.2) (μ:=λv=>((t.length:Int)-v.2.2).toNat) ⟨by simp_all,by simp_all,Int.le_refl _,by simp_all⟩ (by grind) ?_;rintro r⟨f,b,v⟩⟨g1,g2,g3,g4⟩ih;dsimp only at g1 g2 g3 g4⊢;refine tD (λhc=>?_) λhc=>tD (λ_=>tC trivial) λh=>?_
 .simp at hc;refine tA (c6 g1 hc) λx _=>?_;simp only[o4,qA];refine tA (Q:=λ_=>True) (tD (λ_=>tA (Q:=λ_=>True) (tD (λ_=>tC trivial) λh=>?_) λ_ _=>tC trivial) λ_=>tC trivial) λ_ _=>?_;.simp at h;exact tA (c6 h (by omega)) λ_ _=>tC trivial
  .rw[a42 g1 (by omega)];exact tD (λ_=>ih _ ⟨by dsimp only;omega,by dsimp only;omega,by dsimp only;omega,by dsimp only;omega⟩ (by dsimp only;omega)) λ_=>ih _ ⟨by dsimp only;omega,by dsimp only;omega,by omega,by dsimp only;omega⟩ (by dsimp only;omega)
 .simp at h;exact tA (c6 h (by omega)) λ_ _=>tC trivial
def e1v(y:Int):Prop:=(y%4=0/\y%100≠0)\/y%400=0
instance(y:Int):Decidable (e1v y):=by unfold e1v;exact inferInstance
def f0m{y:Int}(hy:0<=y/\y<=100000):a7l y=some (decide (e1v y)):=by unfold a7l e1v;rw[g4m hy.1 (by omega),qA,g4m hy.1 (by omega),g4m hy.1 (by omega)];simp only[qA,o4,y3];congr 1;rw[Bool.eq_iff_iff];simp;exact⟨λh=>decide_eq_true h,of_decide_eq_true⟩
def g8k(y:Int):c6s y 2=if e1v y then 29 else 28:=by unfold c6s e1v;rw[if_pos rfl]
def e6b{y:Int}(hy:0<=y/\y<=100000):a7i y=some (337+c6s y 2):=by unfold a7i;rw[f0m hy,qA,g8k];by_cases h:e1v y<;>simp[h]
def c50{y:Int}(hy:1900<=y/\y<=2200):Tot (a3o y) λr=>365*(y-1900)<=r/\r<=366*(y-1900):=by unfold a3o;rw[e9 (n:=y-1900) (by omega) (by omega),e9 (n:=365*(y-1900)) (by omega) (by omega)];refine tD (λh=>?_) λh=>tC (by simp at h;omega);simp at h;rw[e9 (n:=y-1900-1) (by omega) (by omega)];refine tA (a7t (by omega) (by omega) (by omega)) λq hq=>tC ?_;rw[e9 (by omega) (by omega)];omega
def h1v(f m d:Int):Prop:=(m=1/\d<337+f)\/(m=2/\d<306+f)\/(m=3/\d<306)\/(m=4/\d<275)\/(m=5/\d<245)\/(m=6/\d<214)\/(m=7/\d<184)\/(m=8/\d<153)\/(m=9/\d<122)\/(m=10/\d<92)\/(m=11/\d<61)\/(m=12/\d<31)
def g4e(y:Int):c6s y 1=31/\c6s y 3=31/\c6s y 4=30/\c6s y 5=31/\c6s y 6=30/\c6s y 7=31/\c6s y 8=31/\c6s y 9=30/\c6s y 10=31/\c6s y 11=30/\c6s y 12=31:=by unfold c6s;simp
def c2d(a:Int):Tot (a4d a) λr=>(0<=r.1/\r.1<=2100)/\(r.2.2.2=true->(1900<=r.1/\r.1<=2100)/\(1<=r.2.1/\r.2.1<=12)/\r.2.2.1<=c6s r.1 r.2.1):=by
 unfold a4d m7;simp only[a7h,qA];refine tD (λ_=>tC ⟨by decide,λh=>by cases h⟩) λh=>?_;simp at h;refine tA (a7t h.1 (by omega) (by omega)) λq hq=>?_;have hq2:q<=199:=by omega
 rw[e9 (n:=1900+q) (by omega) (by omega)];unfold lpC;refine tO (I:=λv:Int=>1900<=v/\v<=2100) (μ:=λv=>(2200-v).toNat) ⟨by omega,by omega⟩ (by show(2200-(1900+q)).toNat<_;omega) ?_;rintro r y⟨g1,g2⟩ih;obtain⟨s,es,hs⟩:=c50 (y:=y) (by omega);have hf:28<=c6s y 2/\c6s y 2<=29:=by rw[g8k];split<;>omega
 rw[es,qA,e6b (by omega),qA,e9 (n:=s+(337+c6s y 2)) (by omega) (by omega)];refine tD (λhc=>?_) λhc=>?_;.simp at hc;rw[a42 (by omega) (by omega)];exact ih _ ⟨by omega,by omega⟩ (by omega)
 .simp at hc;rw[qA,e9 (n:=a-s) (by omega) (by omega)];obtain⟨l1,l3,l4,l5,l6,l7,l8,l9,l10,l11,l12⟩:=g4e y;refine tO (I:=λv:Int×Int=>h1v (c6s y 2) v.1 v.2/\-100000<=v.2) (μ:=λv=>(13-v.1).toNat) ⟨.inl ⟨rfl,by dsimp only;omega⟩,by dsimp only;omega⟩ (by show(13-1:Int).toNat<_;omega) ?_;rintro r2⟨m,d⟩⟨k1,k2⟩ih2;dsimp only at k1 k2⊢;have hm:1<=m/\m<=12:=by unfold h1v at k1;omega
  have hd:d<=366:=by unfold h1v at k1;omega
  have hl:=d2e y m;rw[b2z (by omega) hm,qA];refine tD (λh2=>?_) λh2=>?_;.simp at h2;rw[qA,a42 (by omega) (by omega),e9 (n:=d-c6s y m) (by omega) (by omega)];refine ih2 _ ⟨?_,by dsimp only;omega⟩ (by dsimp only;omega);dsimp only;unfold h1v at k1⊢;rcases k1 with⟨e,k⟩|⟨e,k⟩|⟨e,k⟩|⟨e,k⟩|⟨e,k⟩|⟨e,k⟩|⟨e,k⟩|⟨e,k⟩|⟨e,k⟩|⟨e,k⟩|⟨e,k⟩|⟨e,k⟩<;>subst e<;>omega
  .simp at h2;refine tC ⟨by dsimp only;omega,λ_=>⟨⟨g1,g2⟩,hm,?_⟩⟩;dsimp only;rw[e9 (by omega) (by omega)];omega
def e1r(y m d:Int):Tot (b1r y m d) λ_=>True:=by
 unfold b1r lpC;simp only[a1z,y3,qA];by_cases hy:1900<=y/\y<=2099/\1<=m/\m<=12
 .refine tA (Q:=λ_=>True) (tD (λ_=>tC trivial) λ_=>?_) λ_ _=>tD (λ_=>tC trivial) λ_=>?_;.rw[b2z (by omega) (by omega),qA];exact tC trivial
  .refine tA (c50 (by omega)) λs _=>?_;refine tO (I:=λv:Int×Int=>1<=v.2/\v.2<=12) (μ:=λv=>(13-v.2).toNat) ⟨Int.le_refl _,by show(1:Int)<=12;omega⟩ (by show(13-1:Int).toNat<_;omega) ?_;rintro r⟨a,k⟩⟨g1,g2⟩ih;dsimp only at g1 g2⊢;refine tD (λhc=>?_) λ_=>tC trivial;simp at hc;rw[b2z (by omega) (by omega),qA,a42 (by omega) (by omega)];exact ih _ ⟨by dsimp only;omega,by dsimp only;omega⟩ (by dsimp only;omega)
 .rw[if_pos (by simp;omega),qA,if_pos rfl];exact tC trivial
def d8b(a n:Int):Tot (b03 a n) λ_=>True:=by
 have j:∀a b c,Tot (a6q (a,b,c)) λ_=>True:=λa b c=>by unfold a6q;exact tA (e1r _ _ _) λ_ _=>tC trivial
 unfold b03;refine tA (c2d a) λr hr=>?_;simp only[a1z,y3,qA];refine tD (λ_=>tC trivial) λh=>?_;simp at h;obtain⟨⟨g1,g2⟩,_⟩:=hr.2 h.1.1;have hn:0<=n/\n<=2099-r.1:=by have:=h.2;rw[e9 (by omega) (by omega)]at this;omega
 refine tA (Q:=λ_=>True) (tD (λ_=>tC trivial) λ_=>tC trivial) λb _=>?_;refine tA (Q:=λ_=>True) (tD (λ_=>?_) λ_=>tC trivial) λ_ _=>tD (λ_=>tJ (j _ _ _)) λ_=>tJ (j _ _ _);rw[e9 (n:=r.1+n) (by omega) (by omega),f0m (by omega),qA];exact tC trivial
def g4s(a b:Int):Tot (b7r a b) λ_=>True:=by unfold b7r m7;simp only[a7h,a1z,y3,qA];exact tD (λ_=>tC trivial) λ_=>tA (c2d a) λ_ _=>tA (c2d b) λ_ _=>tA (d8b _ _) λ_ _=>tD (λ_=>tC trivial) λ_=>tC trivial
def d9v(x a b m:Int)(t:O Rate)(r:Rounding)(hr:r.Unit≠0)(ht:t.length<=40):Tot (b68 x a b m t r) λ_=>True:=by
 unfold b68 c17 a8n;simp only[a7h,a1z,y3,qA];refine tA (orT (e4o (d6y _))) λ_ _=>tA (orT (e4o (d9a _))) λ_ _=>tA (orT (tA (b8a t) λ_ _=>tC trivial)) λ_ _=>tD (λ_=>tC trivial) λ_=>tD (λ_=>?_) λ_=>?_;.exact tA (c3w _) λs hs=>tA (c1v _ _ _ ⟨by omega,by omega⟩ hs hr) λ_ _=>tC trivial
 .exact tA (d6o t _ _ ht) λ_ _=>tA (d6o t _ _ ht) λ_ _=>tD (λ_=>tC trivial) λ_=>tA (c3w _) λs _=>tA (c3x _ _) λq hq=>tA (c1v _ _ _ hq.1 hq.2 hr) λ_ _=>tC trivial
def tL{σ ρ S α:Type}{f:(σ->A3 ρ)->σ->A3 ρ}{Q:ρ->Prop}(l:O α)(e:S->Int->σ)(I:S->Nat->Prop)(hl:l.length<=2^40)(step:∀rec s(i:Nat)y,i<l.length->l[i]?=Option.some y->I s i->(∀s',I s' (i+1)->Tot (rec (e s' (i64 ((i:Int)+1)))) Q)->Tot (f rec (e s (i:Int))) Q)(fin:∀rec s,I s l.length->Tot (f rec (e s (l.length:Int))) Q)(s:S)(h0:I s 0):Tot (d9 FU f (e s 0)) Q:=by
 have key:∀(k:Nat)(s:S)(i:Nat),i<=l.length->I s i->l.length-i<k->Tot (d9 k f (e s (i:Int))) Q:=by intro k;induction k with|zero=>omega|succ k ih=>
    intro s i hi hI hk;by_cases h:i<l.length;.exact step _ s i l[i] h (qG h) hI λs' hs'=>by rw[a5g (by omega)];exact ih s' (i+1) (by omega) hs' (by omega)
    .have:i=l.length:=by omega
     subst this;exact fin _ s hI
 exact key FU s 0 (Nat.zero_le _) h0 (by unfold FU;omega)
def b2p{l:O Span}(hl:l.length<=2^40):Tot (a2w l) λr=>Nrm r/\r.length<=l.length:=by obtain⟨r,h1,h2,_,h4⟩:=c1p l hl;exact⟨r,h1,h2,h4⟩
def d4t{l:O Span}(s:Span)(hl:l.length<=2^40):Tot (s6 l s) λr=>Nrm r/\r.length<=73049:=by obtain⟨r,h1,h2,_⟩:=c95 l s hl;exact⟨r,h1,h2,c3n h2⟩
def d4h{l:O Span}(hl:l.length<=2^40):Tot (b6h l) λ_=>True:=by
 refine tA (Q:=λ_=>True) (tA (b2p hl) λz hz=>?_) λ_ _=>tC trivial;refine tL z (λ(s:Int)i=>(s,z,i)) (λ_ _=>True) (by omega) (λrec s i y hi hy _ ih=>?_) (λrec s _=>?_) 0 trivial;.dsimp only;simp only[e7 hy,qA];grind
 .dsimp only;rw[if_neg (g9 _)];exact tC trivial
def e41{l:O Span}(hl:l.length<=2^40):Tot (b90 l) λ_=>True:=by
 refine tA (b2p hl) λz hz=>tD (λ_=>tC trivial) λh=>?_;have:z.length≠0:=by simp_all
 rw[e9 (n:=(z.length:Int)-1) (by omega) (by omega)];exact tA (c6 (by omega) (by omega)) λ_ _=>tA (c6 (by omega) (by omega)) λ_ _=>tC trivial
def g3h{l:O Span}(n:Int)(hl:l.length<=2^40):Tot (c4p l n) λ_=>True:=by
 refine tD (λ_=>tC trivial) λ_=>tA (b2p hl) λz hz=>?_;refine tL z (λ(s:Int)i=>(s,z,i)) (λ_ _=>True) (by omega) (λrec s i y hi hy _ ih=>?_) (λrec s _=>?_) n trivial;.dsimp only;rw[if_pos (o6 hi)];simp only[e7 hy,qA];exact tD (λ_=>tC trivial) λ_=>ih _ trivial
 .dsimp only;rw[if_neg (g9 _)];exact tC trivial
def d18{l:O Span}(n:Int)(hl:l.length<=2^40):Tot (b4k l n) λr=>r.length<=l.length:=by
 refine tA (b2p hl) λz hz=>?_;refine tL z (λ(s:Int×O Span)i=>(s.1,s.2,z,i)) (λs i=>s.2.length<=i) (by omega) (λrec s i y hi hy hI ih=>?_) (λrec s hI=>?_) (n,[]) (by simp)
 .dsimp only;rw[if_pos (o6 hi)];simp only[e7 hy,qA];have j:∀q k,Tot (b2y rec (s.1,s.2,q,z,k,(i:Int))) λr=>r.length<=l.length:=λq k=>by unfold b2y;rw[p6 (by simp only[qR,qS];omega),qA];exact ih (_,_) (by simp;omega)
  exact tD (λ_=>tC (by omega)) λ_=>tD (λ_=>tJ (j _ _)) λ_=>tJ (j _ _)
 .dsimp only;rw[if_neg (g9 _)];exact tC (by omega)
def f1y(l:O nQ)(a:Int)(ks:O Int)(hl:l.length<=2^30)(hk:ks.length<=2^30):Tot (a8q l a ks) λ_=>True:=by
 unfold a8q;refine tL l (λ(s:O Span)i=>(s,i)) (λs i=>s.length<=i) (by omega) (λrec s i y hi hy hI ih=>?_) (λrec s hI=>?_) [] (by simp)
 .dsimp only;rw[if_pos (o6 hi)];simp only[e7 hy,qA,a1z];refine tA (Q:=λ_=>True) (tD (λ_=>?_) λ_=>tC trivial) λ_ _=>tD (λ_=>?_) λ_=>ih _ (by omega)
  .obtain⟨n,h1,_⟩:=c5d (f:=a06 ks y.Rank) ks (λz=>y.Rank==z) hk (λrec i z hz=>by have hi:=(qD.1 hz).1;unfold a06;rw[if_pos (o6 hi)];simp only[e7 hz,qA]) λrec=>by unfold a06;simp_all
   unfold q9 a4p;rw[h1];exact tC trivial
  .rw[p6 (by grind),qA];simp_all
 .dsimp only;rw[if_neg (g9 _)];exact tA (d4h (by omega)) λ_ _=>tC trivial
def e0f(l:O nQ)(a b:Int)(hl:l.length<=2^30):Tot (b6i l a b) λr=>Nrm r/\r.length<=l.length:=by
 unfold b6i;refine tL l (λ(s:O Span)i=>(s,i)) (λs i=>s.length<=i) (by omega) (λrec s i y hi hy hI ih=>?_) (λrec s hI=>?_) [] (by simp);.dsimp only;rw[if_pos (o6 hi)];simp only[e7 hy,qA,y3,o4];refine tD (λ_=>?_) λ_=>ih s (by omega);rw[p6 (by simp only[qR,qS];omega),qA];simp_all
 .dsimp only;rw[if_neg (g9 _)];exact tA (b2p (by omega)) λr hr=>tC ⟨hr.1,by omega⟩
def d31(v:Version)(y:Int)(hv:v.Series.length<=2^40):Tot (b0w v y) λ_=>True:=by
 unfold b0w;refine tL v.Series (λ(s:Int)i=>(v,(⟨0,0⟩:fQ),s,i)) (λs i=>-1<=s/\s<(i:Int)) hv (λrec s i x hi hx hI ih=>?_) (λrec s hI=>?_) (-1) ⟨by omega,by omega⟩;.dsimp only;rw[if_pos (o6 hi)];simp only[e7 hx,qA];refine tA (Q:=λ_=>True) (tD (λ_=>tA (Q:=λ_=>True) (tD (λ_=>tC trivial) λh=>?_) λ_ _=>tC trivial) λ_=>tC trivial) λ_ _=>tD (λ_=>ih (i:Int) ⟨by omega,by omega⟩) λ_=>ih s ⟨hI.1,by omega⟩;simp at h;exact tA (c6 h (by omega)) λ_ _=>tC trivial
 .dsimp only;rw[if_neg (g9 _)];refine tD (λ_=>tC trivial) λh=>?_;simp at h;exact tA (c6 h hI.2) λ_ _=>tC trivial
def d1v(f:fQ):Tot (b0x f) λ_=>True:=by unfold b0x;simp only[o4,qA];exact tA (b2t f) λ_ _=>tC trivial
def d7q(v:Version)(a b c:Int)(hv:v.Series.length<=2^40):Tot (b2s v a b c) λ_=>True:=by refine tA (d31 v _ hv) λf _=>tA (d31 v _ hv) λg _=>?_;simp only[a1z,qA];refine tA (orT (e4o (d1v _))) λ_ _=>tA (orT (e4o (d1v _))) λ_ _=>tD (λ_=>tC trivial) λ_=>tA (c3x _ _) λq hq=>tD (λ_=>tC trivial) λh=>?_;simp at h;have hD:=e6c (u64 f.Den*u64 g.Num);unfold U64 at hq hD;exact tA (c4l hq.1.1 hq.2.1 (by omega) h (by omega)) λ_ _=>tD (λ_=>tC trivial) λ_=>tC trivial
def d70(l:O Earning)(v:Version)(r:Int)(hl:l.length<=2^30)(hv:v.Series.length<=2^40):Tot (b14 l v r) λq=>q.1.length<=2^30:=by
 unfold b14;refine tL l (λ(s:O Int)i=>(v,s,i)) (λs i=>s.length<=i) (by omega) (λrec s i x hi hx hI ih=>?_) (λrec s hI=>?_) [] (by simp);.dsimp only;rw[if_pos (o6 hi)];simp only[e7 hx,qA];refine tA (d7q v _ _ _ hv) λq _=>tD (λ_=>tC (by simp)) λ_=>?_;rw[p6 (by simp only[qR,qS];omega),qA];simp_all
 .dsimp only;rw[if_neg (g9 _)];exact tC (by grind)
def e74(l:O Int):Tot (b6e l) λ_=>True:=by
 refine tD (λ_=>tC trivial) λh=>?_;simp at h;refine tL l (λ(s:Int)i=>((⟨0,0⟩:fQ),s,i)) (λs _=>I64 s) (by omega) (λrec s i x hi hx hI ih=>?_) (λrec s hI=>?_) 0 ⟨by decide,by decide⟩;.dsimp only;rw[if_pos (o6 hi)];simp only[e7 hx,qA,a1z];exact tD (λ_=>tC trivial) λ_=>ih _ (d5z _)
 .dsimp only;rw[if_neg (g9 _)];exact tD (λ_=>tC trivial) λ_=>tA (d7p hI ⟨by omega,by omega⟩) λ_ _=>tC trivial
def f4c(f:aQ)(n:Int):Tot (b6a f n) λ_=>True:=by
 unfold b6a;rw[d1t,qA];simp only[a1z,y3,qA];refine tD (λ_=>tC trivial) λh=>?_;have hv:vld f=true:=by simp_all
 have:=(i6a hv).s;rw[e9 (n:=f.Span.To-f.Span.From) (by omega) (by omega)];exact tA (b7s (by omega)) λ_ _=>tC trivial
def f3y(y:Int):Tot (b5y y) λ_=>True:=by exact tA (e1r _ _ _) λ_ _=>tA (e1r _ _ _) λ_ _=>tC trivial
def TrF(T:O Rules):Prop:=∃m:Int,0<=m/\m<=450/\(T=[⟨0,m,730,25,[0,1,2]⟩]\/T=[⟨0,m,730,25,[0,1]⟩,⟨35000,m,365,30,[0,1,2]⟩]\/T=[⟨0,m,730,25,[0,1,2]⟩,⟨36000,m,730,25,[0,1]⟩])
def f7m{l:O Int}(hl:l.length<=9223372036854775807):Tot (b04 l) λr=>r.length=15/\∀u∈r,u.Kind≠4:=by
 refine tO (I:=λv:O aQ×Int=>1<=v.2/\v.2<=3/\(v.1.length:Int)=6*(v.2-1)/\∀u∈v.1,u.Kind≠4) (μ:=λv=>(3-v.2).toNat) ⟨Int.le_refl _,by omega,rfl,λu h=>by grind⟩ (by omega) ?_;intro r v hI ih;obtain⟨g1,g2,g3,g4⟩:=hI;refine tD (λhc=>?_) λhc=>?_
 .simp at hc;rw[a42 (by omega) (by omega)];repeat' first|(refine tA (a0t _ _ hl) λ_ _=>?_)|(refine tA (a1i (by omega) (by omega)) λ_ _=>?_)|(refine tA (b24 (by simp;omega)) λ_ h=>?_;subst h)
  refine ih _ ⟨by omega,by omega,by simp;omega,λu hu=>?_⟩ (by omega);simp only[qK,qF]at hu;rcases hu with(((((hu|rfl)|rfl)|rfl)|rfl)|rfl)|rfl<;>first|exact g4 u hu|(dsimp only;decide)
 .simp at hc;repeat' first|(refine tA (a0t _ _ hl) λ_ _=>?_)|(refine tA (a1i (by omega) (by omega)) λ_ _=>?_)|(refine tA (b24 (by simp;omega)) λ_ h=>?_;subst h)
  refine tC ⟨by simp;omega,λu hu=>?_⟩;simp only[qK,qF]at hu;rcases hu with((hu|rfl)|rfl)|rfl<;>first|exact g4 u hu|(dsimp only;decide)
def c30(u:aQ):Bool:=u.Kind==4
structure a48(f:List aQ):Prop where
 val:∀u∈f,vld u=true
 len:f.length<=27pos:(f.filter c30).length<=12
def e2g(g:aQ):∀l:O aQ,((c4o l g).filter c30).length<=(l.filter c30).length+(if c30 g=true then 1 else 0)
 |[]=>by show(([g]:O aQ).filter c30).length<=_;grind|a::t=>by
   have ih:=e2g g t;unfold c4o;split;.grind
   grind
def d00:∀(l out:O aQ),((l.foldl c4o out).filter c30).length<=(out.filter c30).length+(l.filter c30).length|[],out=>by simp|g::l,out=>by have h1:=d00 l (c4o out g);have h2:=e2g g out;grind
def f1t{A T:O Posting}{x y:Posting}:a8h (a8h (A++y::x::T) ((A.length:Int)+1) y) (A.length:Int) x=A++x::y::T:=by
 have e1:((A.length:Int)+1).toNat=A.length+1:=by omega
 unfold a8h;rw[if_pos (by omega),if_pos (by omega),e1,Int.toNat_natCast];simp_all
def d9h{A T:O Posting}{x:Posting}:c7 (A++x::T) (A.length:Int)=some x:=by rw[b4c];simp
def g67{A T:O Posting}{x y:Posting}:a8h (A++y::x::T) ((A.length:Int)+1) y=A++y::y::T:=by
 have e1:((A.length:Int)+1).toNat=A.length+1:=by omega
 unfold a8h;rw[if_pos (by omega),e1,set_append_right _ _ (by omega)];simp
def g64(cmp:Posting->Posting->A3 Int)(a1:Int)(r2:((O Posting)×Int)->A3 (O Posting))(v1:(O Posting)×Int)(r4:((O Posting)×Int)->A3 (O Posting))(v3:(O Posting)×Int):A3 (O Posting):=(if(decide (v3.2>a1))then(c7 v3.1 v3.2).bind λv5=>(c7 v3.1 v3.2).bind λv6=>(c7 v3.1 (i64 (v3.2-1))).bind λv7=>(c7 v3.1 (i64 (v3.2-1))).bind λv8=>(cmp v6 v8).bind λv9=>some (decide (v9<0))else some false).bind λv10=>if v10 then(c7 v3.1 (i64 (v3.2-1))).bind λv11=>(c7 v3.1 (i64 (v3.2-1))).bind λv12=>(c7 v3.1 v3.2).bind λv13=>(c7 v3.1 v3.2).bind λv14=>(c7 v3.1 v3.2).bind λv15=>(c7 v3.1 v3.2).bind λv16=>(c7 (a8h v3.1 v3.2 v12) (i64 (v3.2-1))).bind λv17=>(c7 (a8h v3.1 v3.2 v12) (i64 (v3.2-1))).bind λv18=>r4 (a8h (a8h v3.1 v3.2 v12) (i64 (v3.2-1)) v14,i64 (v3.2-1))else r2 (v3.1,i64 (v1.2+1))
def e7g(cmp:Posting->Posting->A3 Int)(a2 a1:Int)(r2:((O Posting)×Int)->A3 (O Posting))(v1:(O Posting)×Int):A3 (O Posting):=if(decide (v1.2<a2))then d9 FU (g64 cmp a1 r2 v1) (v1.1,v1.2)else some v1.1
def h24(cmp:Posting->Posting->A3 Int)(a0:O Posting)(a1 a2:Int):A3 (O Posting):=d9 FU (e7g cmp a2 a1) (a0,i64 (a1+1))
section
variable {c:Posting -> Posting -> Int} {cmp:Posting -> Posting -> A3 Int} {S:Posting -> Prop}
structure Ordered(c:Posting->Posting->Int)(S:Posting->Prop):Prop where asymm:∀x y,S x->S y->c x y<0->¬c y x<0trans:∀x y z,S x->S y->S z->¬c y x<0->¬c z y<0->¬c z x<0
def Le(c:Posting->Posting->Int)(x y:Posting):Prop:=¬c y x<0
def c8i(hO:Ordered c S)(hc:∀x y,S x->S y->cmp x y=some (c x y))(orig:O Posting)(hS:∀x∈orig,S x)(hlen:orig.length<=1000)(i:Nat)(rec:O Posting×Int->A3 (O Posting))(A:O Posting)(x:Posting)(C:O Posting)(hi:A.length=i)(hp:(A++x::C).Perm orig)(hs:A.Pairwise (Le c)):∃A':O Posting,A'.length=i+1/\(A'++C).Perm orig/\A'.Pairwise (Le c)/\d9 FU (g64 cmp 0 rec (A++x::C,(i:Int))) (A++x::C,(i:Int))=rec (A'++C,((i+1:Nat):Int)):=by
 have hil:i<1000:=by have:=hp.length_eq;grind
 refine c4u (λs=>∃(A1 B:O Posting),s=(A1++x::(B++C),(A1.length:Int))/\A1.length+B.length=i/\(A1++x::(B++C)).Perm orig/\(A1++B).Pairwise (Le c)/\∀b∈B,Le c x b) (λs=>s.2.toNat) (λo=>∃A':O Posting,A'.length=i+1/\(A'++C).Perm orig/\A'.Pairwise (Le c)/\o=rec (A'++C,((i+1:Nat):Int))) ⟨A,[],by grind,by omega,by simp_all,by simp_all,by simp⟩ (by omega) ?_;rintro s rec2⟨A1,B,rfl,hl,hp1,hs1,hb⟩;have hmem:∀y∈A1++x::(B++C),S y:=λy hy=>hS y (hp1.subset hy);have hSx:S x:=hmem x (by simp);have stop:∀o:A3 (O Posting),o=rec (A1++x::(B++C),i64 ((i:Int)+1))->(∀a∈A1,Le c a x)->∃A':O Posting,A'.length=i+1/\(A'++C).Perm orig/\A'.Pairwise (Le c)/\o=rec (A'++C,((i+1:Nat):Int)):=by
  intro o ho ha;refine⟨A1++x::B,by grind,by grind,?_,?_⟩;.rw[pairwise_append]at hs1⊢;refine⟨hs1.1,List.pairwise_cons.2 ⟨hb,hs1.2.1⟩,λa h1 b h2=>?_⟩;grind
  .rw[ho,e9 (by omega) (by omega)];simp
 unfold g64;rcases eq_nil_or_concat A1 with h0|⟨A2,y,h0⟩
 .subst h0;left;have:decide ((([]:O Posting).length:Int)>(0:Int))=false:=by simp
  exact stop _ rfl (by simp)
 .have h0:A1=A2++[y]:=by simpa using h0
  subst h0;have e0:(((A2++[y]).length:Nat):Int)=(A2.length:Int)+1:=by simp
  have hd:decide ((((A2++[y]).length:Nat):Int)>(0:Int))=true:=by rw[e0,decide_eq_true_eq];omega
  have e1:i64 ((((A2++[y]).length:Nat):Int)-1)=(A2.length:Int):=by rw[e0,e9 (by omega) (by omega)];omega
  have eL:A2++[y]++x::(B++C)=A2++y::x::(B++C):=by simp
  have g1:c7 (A2++[y]++x::(B++C)) (((A2++[y]).length:Nat):Int)=some x:=d9h;have g2:c7 (A2++[y]++x::(B++C)) (A2.length:Int)=some y:=by rw[eL];exact d9h
  have g3:c7 (a8h (A2++[y]++x::(B++C)) (((A2++[y]).length:Nat):Int) y) (A2.length:Int)=some y:=by rw[eL,e0,g67];exact d9h
  have hSy:S y:=hmem y (by simp);simp only[hd,if_true,g1,e1,g2,g3,hc x y hSx hSy,qA];by_cases hlt:c x y<0
  .right;simp only[hlt,decide_true,if_true];refine⟨_,rfl,⟨A2,y::B,?_,by simp at hl⊢;omega,?_,by simpa using hs1,?_⟩,by omega⟩;.rw[eL,e0,f1t];simp
   .refine List.Perm.trans ?_ hp1;rw[eL];exact List.Perm.append_left A2 (List.Perm.swap y x (B++C))
   .intro b hbm;rcases qO.1 hbm with hbm|hbm;.rw[hbm];exact hO.asymm x y hSx hSy hlt
    .exact hb b hbm
  .left;simp only[hlt,decide_false,qM,if_false];refine stop _ rfl (λa ha=>?_);rw[qK,qF]at ha;rcases ha with ha|ha
   .have hay:Le c a y:=by rw[qQ,pairwise_append]at hs1;exact hs1.2.2 a ha y (by simp)
    exact hO.trans a y x (hmem a (by simp[ha])) hSy hSx hay hlt
   .rw[ha];exact hlt
def d86(hO:Ordered c S)(hc:∀x y,S x->S y->cmp x y=some (c x y))(orig:O Posting)(hS:∀x∈orig,S x)(hlen:orig.length<=1000):∃r,h24 cmp orig 0 (orig.length:Int)=some r/\r.Perm orig/\r.Pairwise (Le c):=by
 unfold h24;by_cases hne:orig=[]
 .subst hne;refine⟨[],?_,List.Perm.refl _,List.Pairwise.nil⟩;have:∀k,0<k->d9 k (e7g cmp (([]:O Posting).length:Int) 0) ([],i64 (0+1))=some []:=by intro k hk;cases k with|zero=>omega|succ k=>show e7g _ _ _ _ _=_;unfold e7g;rw[if_neg (by rw[e9 (by omega) (by omega)];simp)]
  exact this FU (by unfold FU;omega)
 have e1:i64 (0+1)=((1:Nat):Int):=by rfl
 refine b9s (λs=>∃(A C:O Posting),s=(A++C,(A.length:Int))/\1<=A.length/\(A++C).Perm orig/\A.Pairwise (Le c)) (λs=>orig.length-s.2.toNat) _ ?_ (by omega) ?_;.cases orig with|nil=>simp_all|cons x r=>exact⟨[x],r,rfl,by simp,List.Perm.refl _,pairwise_singleton _ _⟩
 .rintro s rec⟨A,C,rfl,hA,hp,hs⟩;unfold e7g;have hle:=hp.length_eq;rw[qL]at hle;cases C with|nil=>simp_all|cons x C=>right;rw[qR]at hle;rw[if_pos (by grind)];obtain⟨A',h1,h2,h3,h4⟩:=c8i hO hc orig hS hlen A.length rec A x C rfl hp hs;refine⟨_,h4,⟨A',C,by grind,by omega,h2,h3⟩,by omega⟩
end
def sgn(p q:Int):Int:=if p<q then-1 else if q<p then 1 else 0
def c8a(x y:Int):a2c x y=some (sgn x y):=by unfold a2c b1d sgn;grind
def orI:O Int->Int|[]=>0|x::r=>if x=0then orI r else x
def g6c(p q:Int):sgn p q<0↔p<q:=by unfold sgn;omega
def f8x(p q:Int):sgn p q=0↔p=q:=by unfold sgn;omega
def f9a(x:Int)(r:O Int):orI (x::r)<0↔x<0\/x=0/\orI r<0:=by simp only[orI];omega
def h3n(l:O Int)(hl:l.length<=1000):b67 l=some (orI l):=by unfold b67;obtain⟨r,h1,h2⟩:=b9s (f:=b58 l) (λs=>∃A B,l=A++B/\s=(A.length:Int)/\orI l=orI B) (λs=>l.length-s.toNat) (λr=>r=orI l) (s:=0) ⟨[],l,rfl,rfl,rfl⟩ (by omega) (by
  rintro s rec⟨A,B,hAB,rfl,ho⟩;unfold b58;have hlen:l.length=A.length+B.length:=by simp_all
  cases B with|nil=>left;rw[if_neg (by simp_all)];exact⟨_,rfl,by rw[ho];rfl⟩|cons y B=>
    rw[qR]at hlen;have hg:c7 l (A.length:Int)=some y:=by rw[hAB,b4c];simp
    rw[if_pos (by grind),hg,qA];by_cases hy:y=0;.right;rw[if_neg (by grind),e9 (n:=(A.length:Int)+1) (by omega) (by omega)];exact⟨((A++[y]).length:Int),by simp,⟨A++[y],B,by simp_all,rfl,by rw[ho,hy];rfl⟩,by simp;omega⟩
    .left;rw[if_pos (by simp_all)];exact⟨_,rfl,by rw[ho];simp[orI,hy]⟩);simp_all
def g4l:m6=h24 a0j:=rfl
def f9z(a b:Posting):Int:=orI [sgn a.Span.From b.Span.From,sgn a.Seat b.Seat,sgn a.State b.State]
def c2f(a b:Posting):f9z a b<0↔a.Span.From<b.Span.From\/a.Span.From=b.Span.From/\(a.Seat<b.Seat\/a.Seat=b.Seat/\a.State<b.State):=by unfold f9z;simp only[f9a,g6c,f8x];simp[orI]
def f1s{a b:Posting}(h1:¬f9z a b<0)(h2:¬f9z b a<0):a.Span.From=b.Span.From/\a.Seat=b.Seat/\a.State=b.State:=by rw[c2f]at h1 h2;grind
def d8y(S:Posting->Prop):Ordered f9z S:=by
 constructor;.intro x y _ _;rw[c2f,c2f];omega
 .intro x y z _ _ _;rw[c2f,c2f,c2f];omega
def g3d(a b:Posting):a0j a b=some (f9z a b):=by unfold a0j;simp only[c8a,qA];rw[h3n _ (by simp)];rfl
def e34:Nat->Bool|0=>true|n+1=>(c7q (u64 (n:Int))).isSome&&e34 n
def e85:e34 13=true:=by kernel_rfl
def d7j:∀(k n:Nat),e34 k=true->n<k->(c7q (u64 (n:Int))).isSome=true
 |0,n,_,h=>by omega|k+1,n,h,hn=>by
   simp only[e34,qB]at h;by_cases e:n=k;.simp_all
   .exact d7j k n h.2 (by omega)
def d6k(l:O Posting)(hl:l.length<=12)(r:O Posting)(h1:h24 a0j l 0 (l.length:Int)=some r):c9 l=some r:=by
 rw[<-g4l]at h1;obtain⟨n,hn⟩:=Option.isSome_iff_exists.1 (d7j 13 l.length e85 (by omega));unfold c9 y6;rw[hn,qA];have key:∀k,0<k->((c3 k).f_slices_pdqsortCmpFunc_of_api_Posting l 0 (l.length:Int) n)=some r:=by intro k hk;cases k with|zero=>omega|succ k=>
    show i7 _ _ _ _ _=_;generalize c3 k=R;have key2:∀k,0<k->d9 k (i6 R) (l,0,(l.length:Int),n,true,true)=some r:=by intro k hk;cases k with|zero=>omega|succ k=>show i6 _ _ _=_;unfold i6;dsimp only;rw[e9 (by omega) (by omega),if_pos (by grind),h1,qA]
    exact key2 FU (by unfold FU;omega)
 rw[key FU (by unfold FU;omega),qA]
def c9r(l:O Posting)(hl:l.length<=12):∃r,c9 l=some r/\r.Perm l/\r.Pairwise (Le f9z):=by obtain⟨r,h1,h2,h3⟩:=d86 (c:=f9z) (S:=λ_=>True) (cmp:=a0j) (d8y _) (λx y _ _=>g3d x y) l (λ_ _=>trivial) (by omega);exact⟨r,d6k l hl r h1,h2,h3⟩
def e1z{α:Type}{R:α->α->Prop}:∀{a b:O α},a.Perm b->(∀x∈a,∀y∈a,R x y->R y x->x=y)->a.Pairwise R->b.Pairwise R->a=b
 |[],b,hp,_,_,_=>by simp_all|x::a,[],hp,_,_,_=>absurd hp (by simp)|x::a,y::b,hp,hx,h1,h2=>by
   obtain⟨g1,g2⟩:=List.pairwise_cons.1 h1;obtain⟨g3,g4⟩:=List.pairwise_cons.1 h2;have e:x=y:=by have m1:x∈y::b:=hp.subset (by simp);grind
   subst e;rw[e1z (perm_cons x|>.1 hp) (λu hu v hv=>hx u (by grind) v (by grind)) g2 g4]
def g4z{f:aQ}(h:cur f=true):vld f=true:=by unfold cur at h;simp_all
def f1a{l:O aQ}{f:aQ}(h:f∈l.filter cur):vld f=true:=g4z (by simp_all)
def c3l{β:Type}:O ((Int×Int)×O β)->Int×Int->β->O ((Int×Int)×O β)|[],k,x=>[(k,[x])]|q::r,k,x=>if q.1=k then(k,q.2++[x])::r else q::c3l r k x
def f0j{β:Type}:∀(L:O ((Int×Int)×O β))(k:Int×Int)(x:β),f7i L k x=c3l L k x
 |[],k,x=>rfl|q::r,k,x=>by
   have ih:=f0j r k x;unfold f7i c3v at ih⊢;unfold c3l;by_cases hq:q.1=k;.simp[ixK,hq]
   .rw[if_neg hq,<-ih];simp only[ixK,hq,if_false,qR];by_cases h:ixK r k<r.length;.simp_all
    .rw[if_neg (by omega),if_neg h];simp only[List.cons_append,List.getElem?_cons_succ];cases(r++[(k,([]:O β))])[ixK r k]?<;>simp
structure GpI(M:List ((Int×Int)×List Span))(c:List aQ):Prop where
 nd:(M.map (·.1)).Nodup
 val:∀q∈M,q.2=(c.filter λf=>(f.Kind==4)&&(f.Seat==q.1.1)&&(f.State==q.1.2)).map (·.Span)key:∀k:Int×Int,k∈M.map (·.1)↔∃f∈c,f.Kind=4/\(f.Seat,f.State)=k
 tot:(M.map (·.2.length)).sum=(c.filter c30).length
def c5r{β:Type}:∀(L:O ((Int×Int)×O β))(k:Int×Int)(x:β)(j:Int×Int),j∈(c3l L k x).map (·.1)↔j=k\/j∈L.map (·.1)
 |[],k,x,j=>by simp[c3l]|q::r,k,x,j=>by
   unfold c3l;by_cases hq:q.1=k;.simp_all
   .have ih:=c5r r k x j;grind
def e29{β:Type}:∀(L:O ((Int×Int)×O β))(k:Int×Int)(x:β),(L.map (·.1)).Nodup->((c3l L k x).map (·.1)).Nodup
 |[],k,x,_=>by simp[c3l]|q::r,k,x,h=>by
   rw[List.map_cons,List.nodup_cons]at h;unfold c3l;by_cases hq:q.1=k;.simp_all
   .rw[if_neg hq,List.map_cons,List.nodup_cons];refine⟨λhm=>?_,e29 r k x h.2⟩;rcases(c5r r k x q.1).1 hm with e|e;all_goals simp_all
def d89{β:Type}:∀(L:O ((Int×Int)×O β))(k:Int×Int)(x:β),((c3l L k x).map (·.2.length)).sum=(L.map (·.2.length)).sum+1
 |[],k,x=>by simp[c3l]|q::r,k,x=>by
   unfold c3l;by_cases hq:q.1=k;.grind
   .have:=d89 r k x;grind
def d7n{β:Type}:∀(L:O ((Int×Int)×O β))(k:Int×Int)(x:β)(q:(Int×Int)×O β),(L.map (·.1)).Nodup->q∈c3l L k x->(q.1≠k/\q∈L)\/(q.1=k/\((∃p∈L,p.1=k/\q.2=p.2++[x])\/(k∉L.map (·.1)/\q.2=[x])))
 |[],k,x,q,_,h=>by simp[c3l]at h;simp_all|p::r,k,x,q,hn,h=>by
   rw[List.map_cons,List.nodup_cons]at hn;unfold c3l at h;by_cases hq:p.1=k
   .rw[if_pos hq]at h;rcases qO.1 h with e|e;.grind
    .grind
   .rw[if_neg hq]at h;rcases qO.1 h with e|e;.grind
    .rcases d7n r k x q hn.2 e with⟨a,b⟩|⟨a,⟨p',b,c,d⟩|⟨b,c⟩⟩;.grind
     .exact .inr ⟨a,.inl ⟨p',by grind,c,d⟩⟩
     .exact .inr ⟨a,.inr ⟨by grind,c⟩⟩
def f7j{M:O ((Int×Int)×O Span)}{c:O aQ}(f:aQ)(h:GpI M c):GpI (b6k M f) (c++[f]):=by
 unfold b6k;by_cases hk:f.Kind=4
 .rw[if_pos hk,f0j];have hk':(f.Kind==4)=true:=by grind
  refine⟨e29 M _ _ h.nd,λq hq=>?_,λk=>?_,?_⟩
  .rw[filter_append,List.map_append];rcases d7n M _ _ q h.nd hq with⟨a,b⟩|⟨a,⟨p,b,e,g⟩|⟨b,e⟩⟩;.rw[<-h.val q b];grind
   .have e1:q.1=p.1:=a.trans e.symm;rw[e1,<-h.val p b,g];simp_all
   .have h0:(c.filter λu=>(u.Kind==4)&&(u.Seat==(f.Seat,f.State).1)&&(u.State==(f.Seat,f.State).2))=[]:=by rw[List.filter_eq_nil_iff];intro u hu hh;simp at hh;exact b ((h.key _).2 ⟨u,hu,hh.1.1,by simp_all⟩)
    grind
  .rw[c5r,h.key];constructor;.grind
   grind
  .rw[d89,h.tot,filter_append];have:c30 f=true:=hk';simp_all
 .rw[if_neg hk];have hk':(f.Kind==4)=false:=by simp_all
  refine⟨h.nd,λq hq=>?_,λk=>?_,?_⟩;.rw[h.val q hq,filter_append,List.map_append];simp_all
  .rw[h.key];simp_all
  .rw[h.tot,filter_append];have:c30 f=false:=hk';simp_all
def e3k:∀(l:O aQ){M:O ((Int×Int)×O Span)}{c:O aQ},GpI M c->GpI (l.foldl b6k M) (c++l)|[],M,c,h=>by simp_all|f::l,M,c,h=>by have:=e3k l (f7j f h);simp_all
def g51(l:O aQ):GpI (l.foldl b6k []) l:=e3k l (c:=[]) ⟨by simp,λq hq=>(by grind),λk=>(by simp),(by simp)⟩
def f4j{M M':O ((Int×Int)×O Span)}{c:O aQ}(h:GpI M c)(hp:M'.Perm M):GpI M' c:=⟨(hp.map _).nodup_iff.2 h.nd,λq hq=>h.val q (hp.subset hq),λk=>by rw[<-h.key];grind,by rw[<-h.tot];grind⟩
def e2y(k:Int):∀(l:O aQ)(s:Int×Bool),(∀u∈l,cur u=true)->0<=s.1/\s.1<=73048->0<=(l.foldl (c9p k) s).1/\(l.foldl (c9p k) s).1<=73048|[],s,_,h=>h|u::l,s,hl,h=>by refine e2y k l _ (λv hv=>hl v (by grind)) ?_;have:=f4a (hl u (by simp));unfold c9p;grind
def g41(k:Int)(l:O aQ):0<=((l.filter cur).foldl (c9p k) (0,false)).1/\((l.filter cur).foldl (c9p k) (0,false)).1<=73048:=e2y k _ _ (λu hu=>by simp_all) (by decide)
def c3g(l:O aQ):Int×Bool:=(l.filter cur).foldl (c9p 11) (0,false)
def d2r(l:O aQ):Int:=if(d3m l).2=true then(d3m l).1else 73048
def a4q(l:O aQ):Span:=if d2r l<(c3g l).1then⟨0,0⟩else⟨(c3g l).1,d2r l+1⟩
def f6l(l:O aQ):0<=d2r l/\d2r l<=73048:=by
 unfold d2r;split;.exact g41 12 l
 omega
def c27(l:O aQ)(hl:l.length<=2^30):a2i l=some (a4q l):=by
 have h1:=f6l l;unfold a2i b4t;rw[d4x l 11 hl,qA,qA,e8l l hl,qA,show(l.filter cur).foldl (c9p 11) (0,false)=c3g l from rfl];have e:∀t:Int,t<=73048->0<=t->joinC b48 ((⟨0,0⟩:Span),(c3g l).1,t)=some (if t<(c3g l).1then⟨0,0⟩else⟨(c3g l).1,t+1⟩):=by intro t ht h0;rw[b7k];unfold b48;dsimp only;rw[e9 (by omega) (by omega)];grind
 unfold a4q d2r at*;by_cases hd:(d3m l).2=true;.simp_all
 simp_all
def d35{α:Type}:∀{a b:O α},a.Nodup->(∀x∈a,x∈b)->a.length<=b.length
 |[],b,_,_=>Nat.zero_le _|x::a,b,hn,hs=>by
   obtain⟨h1,h2⟩:=List.nodup_cons.1 hn;obtain⟨b1,b2,rfl⟩:=append_of_mem (hs x (by simp));have:=d35 (a:=a) (b:=b1++b2) h2 λy hy=>by grind
   grind
def f2n{α:Type}{R:α->α->Prop}:∀{l:O α},l.Pairwise R->∀{a b:α},a∈l->b∈l->a=b\/R a b\/R b a
 |x::l,h,a,b,ha,hb=>by
   obtain⟨h1,h2⟩:=List.pairwise_cons.1 h;rcases qO.1 ha with ha|ha<;>rcases qO.1 hb with hb|hb;.simp_all
   .simp_all
   .simp_all
   .exact f2n h2 ha hb
def g2z{r:O Span}(h:Nrm r){a:Span}(ha:a∈r):¬InS r a.To:=by rintro⟨c,hc,h1,h2⟩;have g1:=h.1 a ha;rcases f2n h.2 ha hc with rfl|h3|h3<;>omega
def d80{r z:O Span}(s:Span)(hr:Nrm r)(h:∀x,InS r x↔InS z x/\s.From<=x/\x<s.To):r.length<=z.length:=by
 let g:Span->Span:=λt=>(z.find? λu=>decide (u.From<=t.From)&&decide (t.From<u.To)).getD ⟨0,0⟩;have hg:∀t∈r,g t∈z/\(g t).From<=t.From/\t.From<(g t).To:=by intro t ht;have g1:=hr.1 t ht;obtain⟨u,hu,h1,h2⟩:=((h t.From).1 ⟨t,ht,Int.le_refl _,g1.2.1⟩).1;cases hf:z.find? λu=>decide (u.From<=t.From)&&decide (t.From<u.To)with|none=>have:=List.find?_eq_none.1 hf u hu;simp_all|some v=>grind
 have hn:(r.map g).Nodup:=by unfold List.Nodup;rw[pairwise_map];refine hr.2.imp_of_mem λ{a b}ha hb hab e=>?_;have g1:=hr.1 a ha;have g2:=hr.1 b hb;have k1:=hg a ha;have k2:=hg b hb;rw[<-e]at k2;have l1:=(h a.From).1 ⟨a,ha,Int.le_refl _,g1.2.1⟩;have l2:=(h b.From).1 ⟨b,hb,Int.le_refl _,g2.2.1⟩;exact g2z hr ha ((h a.To).2 ⟨⟨g a,k1.1,by omega,by omega⟩,by omega,by omega⟩)
 have:=d35 hn (b:=z) λx hx=>by obtain⟨t,ht,rfl⟩:=List.mem_map.1 hx;simp_all
 simp_all
def d4o(a:O Span)(s:Span):O Span:=(s6 a s).getD []
def b8o(a:O Span)(s:Span)(ha:a.length<=2^40):s6 a s=some (d4o a s)/\Nrm (d4o a s)/\(∀x,InS (d4o a s) x↔InS a x/\(s.From<=x/\x<s.To)/\0<=x/\x<73049)/\(d4o a s).length<=a.length:=by
 obtain⟨r,h1,h2,h3⟩:=c95 a s ha;obtain⟨z,m1,m2,m3,m4⟩:=c1p a ha;have e2:d4o a s=r:=by unfold d4o;simp_all
 rw[e2];refine⟨h1,h2,h3,Nat.le_trans (d80 s h2 (z:=z) λx=>?_) m4⟩;constructor;.simp_all
 simp_all
def pmk(s:Span)(M:O ((Int×Int)×O Span)):O Posting:=M.flatMap λq=>(d4o q.2 s).map λx=>⟨q.1.1,q.1.2,x⟩
def e8q(s:Span):∀M:O ((Int×Int)×O Span),(∀q∈M,q.2.length<=2^40)->(pmk s M).length<=(M.map (·.2.length)).sum|[],_=>Nat.le_refl _|q::M,h=>by have ih:=e8q s M λp hp=>h p (by grind);have h1:=(b8o q.2 s (h q (by simp))).2.2.2;unfold pmk at ih⊢;simp only[List.flatMap_cons,qL,List.length_map,List.map_cons,List.sum_cons];omega
def d82(l:O aQ)(hl:l.length<=2^30):∀(M:O ((Int×Int)×O Span))(out:O Posting),(∀q∈M,q.2.length<=2^40)->out.length+(M.map (·.2.length)).sum<=100000->b4v l M out=some (out++pmk (a4q l) M)|[],out,_,_=>by simp[b4v,pmk]|q::M,out,hM,ho=>by obtain⟨h1,_,_,h5⟩:=b8o q.2 (a4q l) (hM q (by simp));simp only[List.map_cons,List.sum_cons]at ho;show(Option.bind (a2i l) λs=>Option.bind (s6 q.2 s) λc=>if out.length+c.length<=100000then b4v l M (out++c.map λx=>⟨q.1.1,q.1.2,x⟩)else none)=_;rw[c27 l hl,qA,h1,qA,if_pos (by omega)];rw[d82 l hl M _ (λp hp=>hM p (by simp[hp])) (by rw[qL,List.length_map];omega)];simp[pmk]
def f3b(f:O aQ)(a b:Int):O Span:=((f.filter cur).filter λu=>(u.Kind==4)&&(u.Seat==a)&&(u.State==b)).map (·.Span)
def PM(f:O aQ)(p:Posting):Prop:=p.Span∈d4o (f3b f p.Seat p.State) (a4q f)
def d4g(f:O aQ)(a b:Int):(f3b f a b).length<=f.length:=by unfold f3b;grind
def e1c{f:O aQ}(hf:f.length<=2^30){M:O ((Int×Int)×O Span)}(h:GpI M (f.filter cur))(p:Posting):p∈pmk (a4q f) M↔PM f p:=by
 unfold pmk PM;rw[mem_flatMap];constructor;.rintro⟨q,hq,hp⟩;obtain⟨x,hx,rfl⟩:=List.mem_map.1 hp;rw[h.val q hq]at hx;exact hx
 .intro hp;obtain⟨_,h3,h4,_⟩:=b8o (f3b f p.Seat p.State) (a4q f) (by have:=d4g f p.Seat p.State;omega);obtain⟨⟨s,hs,_⟩,_⟩:=(h4 p.Span.From).1 ⟨p.Span,hp,Int.le_refl _,(h3.1 _ hp).2.1⟩;obtain⟨u,hu,_⟩:=List.mem_map.1 hs;rw[mem_filter]at hu;have hh:=hu.2;simp at hh;obtain⟨q,hq,e⟩:=List.mem_map.1 ((h.key (p.Seat,p.State)).2 ⟨u,hu.1,hh.1.1,by rw[hh.1.2,hh.2]⟩);refine⟨q,hq,List.mem_map.2 ⟨p.Span,?_,?_⟩⟩;.rw[h.val q hq,e];exact hp
  .rw[e]
def g4c{f:O aQ}(hf:f.length<=2^30){x y:Posting}(hx:PM f x)(hy:PM f y)(h1:x.Span.From=y.Span.From)(h2:x.Seat=y.Seat)(h3:x.State=y.State):x=y:=by
 unfold PM at hx hy;rw[<-h2,<-h3]at hy;obtain⟨_,k3,_,_⟩:=b8o (f3b f x.Seat x.State) (a4q f) (by have:=d4g f x.Seat x.State;omega);have g1:=k3.1 _ hx;have g2:=k3.1 _ hy;have e:x.Span=y.Span:=by rcases f2n k3.2 hx hy with h|h|h;all_goals omega
 cases x;simp_all
def c90{f:O aQ}(hG:a48 f):∃P,competence_Postings f=some P/\(∀p,p∈P↔PM f p)/\P.length<=12:=by
 have hf:f.length<=2^30:=by have:=hG.len;omega
 have hcl:(f.filter cur).length<=27:=by have:=length_filter_le cur f;have:=hG.len;omega
 have hpos:((f.filter cur).filter c30).length<=12:=by
  have:((f.filter cur).filter c30).length<=(f.filter c30).length:=by rw[filter_filter,show(λa=>c30 a&&cur a)=λa=>cur a&&c30 a from funext λa=>Bool.and_comm _ _,<-filter_filter];grind
  have:=hG.pos;omega
 have hG0:=g51 (f.filter cur);have hlen:∀{M:O ((Int×Int)×O Span)},GpI M (f.filter cur)->∀q∈M,q.2.length<=2^40:=by intro M h q hq;rw[h.val q hq,List.length_map];grind
 have hl12:∀{M:O ((Int×Int)×O Span)},GpI M (f.filter cur)->(pmk (a4q f) M).length<=12:=by intro M h;have:=e8q (a4q f) M (hlen h);rw[h.tot]at this;omega
 obtain⟨P,hP1,hP2,hP3⟩:=c9r (pmk (a4q f) ((f.filter cur).foldl b6k [])) (hl12 hG0);refine⟨P,?_,λp=>?_,?_⟩
 .unfold competence_Postings;rw[b9a f hf,qA,if_pos];.refine g33 (λM hM=>?_) (List.Perm.refl _);have hM':=f4j hG0 hM;rw[d82 f hf M [] (hlen hM') (by rw[hM'.tot,qS];omega),qA,List.nil_append];obtain⟨P',k1,k2,k3⟩:=c9r (pmk (a4q f) M) (hl12 hM');rw[k1];have hpp:P'.Perm P:=k2.trans ((show(pmk (a4q f) M).Perm (pmk (a4q f) ((f.filter cur).foldl b6k []))from hM.flatMap_right _).trans hP2.symm);refine congrArg some (e1z hpp (λx hx y hy g1 g2=>?_) k3 hP3);obtain⟨e1,e2,e3⟩:=f1s g2 g1;exact g4c hf ((e1c hf hM' x).1 (k2.subset hx)) ((e1c hf hM' y).1 (k2.subset hy)) e1 e2 e3
  .refine⟨by omega,?_⟩;rw[qX];intro u hu;obtain⟨_,g1,g2,_⟩:=c3d (f1a hu);unfold c4v;simp only[qB,decide_eq_true_eq];omega
 .rw[hP2.mem_iff,e1c hf hG0]
 .rw[hP2.length_eq];grind
def b08{σ ρ:Type}{f:(σ->A3 ρ)->σ->A3 ρ}{k:Nat}{s:σ}(h:0<k):d9 k f s=f (d9 (k-1) f) s:=by cases k with|zero=>omega|succ k=>rfl
def tin{m n:Int}(h0:0<=m)(h1:m<=n):a7u m n=some true:=by unfold a7u;simp_all
def f0c(F m L S:Int)(M:O Int)(h1:0<=F/\F<=73048)(h2:0<=m/\m<=73049)(h3:0<=L/\L<=73049)(h4:0<=S/\S<=100)(h5:d9 FU (b2n (⟨F,m,L,S,M⟩:Rules)) (⟨F,m,L,S,M⟩,0)=some true):a5x ⟨F,m,L,S,M⟩=some true:=by
 unfold a5x m7;have e:(if decide (F>=0)=true then some (decide (F<=73048))else some false)=some true:=by simp_all
 rw[e];simp only[qA,tin h2.1 h2.2,tin h3.1 h3.2,tin h4.1 h4.2,qU,qM,if_false];omega
def tvA(F m L S:Int):d9 FU (b2n (⟨F,m,L,S,[0,1,2]⟩:Rules)) (⟨F,m,L,S,[0,1,2]⟩,0)=some true:=by kernel_rfl
def tvB(F m L S:Int):d9 FU (b2n (⟨F,m,L,S,[0,1]⟩:Rules)) (⟨F,m,L,S,[0,1]⟩,0)=some true:=by kernel_rfl
def d5j{T:O Rules}(h:TrF T):a9n T=some 0:=by
 obtain⟨m,h0,h1,rfl|rfl|rfl⟩:=h;.have v0:a5x (⟨0,m,730,25,[0,1,2]⟩:Rules)=some true:=f0c _ _ _ _ _ (by decide) ⟨h0,by omega⟩ (by decide) (by decide) (tvA _ _ _ _);unfold a9n;rw[if_neg (by simp)];have e:((([(⟨0,m,730,25,[0,1,2]⟩:Rules)]:O Rules).length:Int)==0)=false:=rfl;simp only[e,qM,if_false];have g:c7 [(⟨0,m,730,25,[0,1,2]⟩:Rules)] 0=some ⟨0,m,730,25,[0,1,2]⟩:=rfl;rw[b08 (by unfold FU;omega)];unfold b27;simp only[g,qA,v0];rfl
 .have v0:a5x (⟨0,m,730,25,[0,1]⟩:Rules)=some true:=f0c _ _ _ _ _ (by decide) ⟨h0,by omega⟩ (by decide) (by decide) (tvB _ _ _ _);have v1:a5x (⟨35000,m,365,30,[0,1,2]⟩:Rules)=some true:=f0c _ _ _ _ _ (by decide) ⟨h0,by omega⟩ (by decide) (by decide) (tvA _ _ _ _);unfold a9n;rw[if_neg (by simp)];have e:((([(⟨0,m,730,25,[0,1]⟩:Rules),⟨35000,m,365,30,[0,1,2]⟩]:O Rules).length:Int)==0)=false:=rfl;simp only[e,qM,if_false];have g:c7 [(⟨0,m,730,25,[0,1]⟩:Rules),⟨35000,m,365,30,[0,1,2]⟩] 0=some ⟨0,m,730,25,[0,1]⟩:=rfl;have g1:c7 [(⟨0,m,730,25,[0,1]⟩:Rules),⟨35000,m,365,30,[0,1,2]⟩] (i64 (0+1))=some ⟨35000,m,365,30,[0,1,2]⟩:=rfl;have g2:c7 [(⟨0,m,730,25,[0,1]⟩:Rules),⟨35000,m,365,30,[0,1,2]⟩] (i64 (i64 (0+1)-1))=some ⟨0,m,730,25,[0,1]⟩:=rfl;rw[b08 (by unfold FU;omega)];unfold b27;simp only[g,qA,v0];rw[b08 (by unfold FU;omega)];simp only[g1,g2,qA,v1];rfl
 .have v0:a5x (⟨0,m,730,25,[0,1,2]⟩:Rules)=some true:=f0c _ _ _ _ _ (by decide) ⟨h0,by omega⟩ (by decide) (by decide) (tvA _ _ _ _);have v1:a5x (⟨36000,m,730,25,[0,1]⟩:Rules)=some true:=f0c _ _ _ _ _ (by decide) ⟨h0,by omega⟩ (by decide) (by decide) (tvB _ _ _ _);unfold a9n;rw[if_neg (by simp)];have e:((([(⟨0,m,730,25,[0,1,2]⟩:Rules),⟨36000,m,730,25,[0,1]⟩]:O Rules).length:Int)==0)=false:=rfl;simp only[e,qM,if_false];have g:c7 [(⟨0,m,730,25,[0,1,2]⟩:Rules),⟨36000,m,730,25,[0,1]⟩] 0=some ⟨0,m,730,25,[0,1,2]⟩:=rfl;have g1:c7 [(⟨0,m,730,25,[0,1,2]⟩:Rules),⟨36000,m,730,25,[0,1]⟩] (i64 (0+1))=some ⟨36000,m,730,25,[0,1]⟩:=rfl;have g2:c7 [(⟨0,m,730,25,[0,1,2]⟩:Rules),⟨36000,m,730,25,[0,1]⟩] (i64 (i64 (0+1)-1))=some ⟨0,m,730,25,[0,1,2]⟩:=rfl;rw[b08 (by unfold FU;omega)];unfold b27;simp only[g,qA,v0];rw[b08 (by unfold FU;omega)];simp only[g1,g2,qA,v1];rfl
def b7n:O Rules->Int->Rules|[a],_=>a|[a,b],d=>if b.From<=d then b else a|_,_=>⟨0,0,0,0,[]⟩
def e30{T:O Rules}(h:TrF T)(d:Int):0<=(b7n T d).PostingLimit/\(b7n T d).PostingLimit<=730/\0<=(b7n T d).Substantial/\(b7n T d).Substantial<=100/\b7n T d∈T:=by
 obtain⟨m,h0,h1,rfl|rfl|rfl⟩:=h;.simp[b7n]
 .simp only[b7n];grind
 .simp only[b7n];grind
def g97{T:O Rules}(h:TrF T):T.length<=2/\∀r∈T,0<=r.From/\r.From<=73048/\0<=r.PostingLimit/\r.PostingLimit<=730:=by obtain⟨m,h0,h1,rfl|rfl|rfl⟩:=h<;>simp
def clA:a7z [0,1,2]=some [0,1,2]:=by kernel_rfl
def clB:a7z [0,1]=some [0,1]:=by kernel_rfl
def g09{d:Int}(h0:0<=d)(h1:d<=73048):m7 d=some true:=by unfold m7;simp_all
def g2p{T:O Rules}(h:TrF T){d:Int}(hd:0<=d)(hd2:d<=73048):b2q T d=some (b7n T d,true):=by
 have hv:m7 d=some true:=g09 hd hd2;obtain⟨m,h0,h1,rfl|rfl|rfl⟩:=h;.have g:c7 [(⟨0,m,730,25,[0,1,2]⟩:Rules)] 0=some ⟨0,m,730,25,[0,1,2]⟩:=rfl;have e0:((([(⟨0,m,730,25,[0,1,2]⟩:Rules)]:O Rules).length:Int)-1)=0:=rfl;unfold b2q b7n;rw[hv,qA];simp only[qU,qM,if_false,e0];rw[b08 (by unfold FU;omega)];unfold b81;rw[if_neg (by simp)];simp only[g,qA];rw[if_pos (by simp_all)];simp only[clA,qA]
 .have g:c7 [(⟨0,m,730,25,[0,1]⟩:Rules),⟨35000,m,365,30,[0,1,2]⟩] 0=some ⟨0,m,730,25,[0,1]⟩:=rfl;have g1:c7 [(⟨0,m,730,25,[0,1]⟩:Rules),⟨35000,m,365,30,[0,1,2]⟩] 1=some ⟨35000,m,365,30,[0,1,2]⟩:=rfl;have e0:((([(⟨0,m,730,25,[0,1]⟩:Rules),⟨35000,m,365,30,[0,1,2]⟩]:O Rules).length:Int)-1)=1:=rfl;unfold b2q b7n;rw[hv,qA];simp only[qU,qM,if_false,e0];rw[b08 (by unfold FU;omega)];unfold b81;rw[if_neg (by simp)];simp only[g1,qA];by_cases hc:(35000:Int)<=d;.rw[if_pos (by simp_all),if_pos hc];simp only[clA,qA]
  .rw[if_neg (by simp_all),if_neg hc,b08 (by unfold FU;omega)];simp only[show(1:Int)-1=0from rfl];rw[if_neg (by simp)];simp only[g,qA];rw[if_pos (by simp_all)];simp only[clB,qA]
 .have g:c7 [(⟨0,m,730,25,[0,1,2]⟩:Rules),⟨36000,m,730,25,[0,1]⟩] 0=some ⟨0,m,730,25,[0,1,2]⟩:=rfl;have g1:c7 [(⟨0,m,730,25,[0,1,2]⟩:Rules),⟨36000,m,730,25,[0,1]⟩] 1=some ⟨36000,m,730,25,[0,1]⟩:=rfl;have e0:((([(⟨0,m,730,25,[0,1,2]⟩:Rules),⟨36000,m,730,25,[0,1]⟩]:O Rules).length:Int)-1)=1:=rfl;unfold b2q b7n;rw[hv,qA];simp only[qU,qM,if_false,e0];rw[b08 (by unfold FU;omega)];unfold b81;rw[if_neg (by simp)];simp only[g1,qA];by_cases hc:(36000:Int)<=d;.rw[if_pos (by simp_all),if_pos hc];simp only[clB,qA]
  .rw[if_neg (by simp_all),if_neg hc,b08 (by unfold FU;omega)];simp only[show(1:Int)-1=0from rfl];rw[if_neg (by simp)];simp only[g,qA];rw[if_pos (by simp_all)];simp only[clA,qA]
def f5d(f:aQ)(s:Int):Tot (b63 f s) λ_=>True:=by unfold b63;simp only[y3,o4,qA];exact tD (λ_=>tC trivial) λ_=>tD (λ_=>tC trivial) λ_=>tC trivial
def g8l(x:earnings_income):Prop:=Nrm x.days
def e0j(l:O aQ)(c:O nQ)(s:Int)(hl:l.length<=1000)(hc:c.length<=2^30):Tot (b13 l c s) λr=>r.length<=1000/\∀x∈r,g8l x:=by
 unfold b13;rw[b9a l (by omega),qA];have hcl:=length_filter_le cur l;generalize l.filter cur=q at hcl;refine tL q (λ(t:O earnings_income)i=>(t,q,i)) (λt i=>t.length<=i/\∀x∈t,g8l x) (by omega) (λrec t i x hi hx hI ih=>?_) (λrec t hI=>?_) [] ⟨by simp,by simp⟩
 .dsimp only;rw[if_pos (o6 hi)];simp only[e7 hx,qA];have keep:=ih t ⟨by omega,hI.2⟩;refine tA (f5d x s) λr _=>tD (λ_=>keep) λ_=>tA (e0f c _ _ hc) λz hz=>tA (d4t _ (by omega)) λz2 hz2=>?_;rw[c27 l (by omega),qA];refine tA (d4t _ (by omega)) λz3 hz3=>tD (λ_=>?_) λ_=>keep;rw[p6 (by simp only[qR,qS];omega),qA];refine ih _ ⟨by simp;omega,λy hy=>?_⟩;rcases qK.1 hy with h|h;.exact hI.2 y h
  .rw[qF]at h;subst h;exact hz3.1
 .dsimp only;rw[if_neg (g9 _)];exact tC ⟨by omega,hI.2⟩
def c8k:∀(l:O (Int×Int))(k v j:Int),j∈(a62 l k v).map (·.1)↔j=k\/j∈l.map (·.1)
 |[],k,v,j=>by simp[a62]|q::r,k,v,j=>by
   unfold a62;by_cases hq:q.1=k;.simp_all
   .have ih:=c8k r k v j;grind
def d5v:∀(l:O (Int×Int))(k v:Int),(l.map (·.1)).Nodup->((a62 l k v).map (·.1)).Nodup
 |[],k,v,_=>by simp[a62]|q::r,k,v,h=>by
   rw[List.map_cons,List.nodup_cons]at h;unfold a62;by_cases hq:q.1=k;.simp_all
   .rw[if_neg hq,List.map_cons,List.nodup_cons];refine⟨λhm=>?_,d5v r k v h.2⟩;rcases(c8k r k v q.1).1 hm with e|e;all_goals simp_all
def YrM(m:O (Int×Int)):Prop:=(m.map (·.1)).Nodup/\∀k∈m.map (·.1),0<=k/\k<=2100
def YrM.set{m:O (Int×Int)}(h:YrM m){k:Int}(hk:0<=k/\k<=2100)(v:Int):YrM (a62 m k v):=⟨d5v m k v h.1,λj hj=>by
 rcases(c8k m k v j).1 hj with e|e;.omega
 .exact h.2 j e⟩
def YrM.len{m:O (Int×Int)}(h:YrM m):m.length<=2101:=by
 have:=d35 h.1 (b:=(List.range 2101).map λ(k:Nat)=>(k:Int)) λx hx=>by have:=h.2 x hx;exact List.mem_map.2 ⟨x.toNat,by grind,by omega⟩
 simp_all
def YrM.keys{m:O (Int×Int)}(h:YrM m):Tot (c8c m) λr=>r.length<=2101/\∀k∈r,0<=k/\k<=2100:=by have hl:=h.len;unfold c8c;rw[if_pos ⟨by rw[qX];intro p hp;have:=h.2 p.1 (List.mem_map.2 ⟨p,hp,rfl⟩);unfold c4v;grind,by omega⟩];have hp:(b89 (m.map (·.1))).Perm (m.map (·.1)):=a8p _;exact tC ⟨by rw[hp.length_eq,List.length_map];omega,λk hk=>h.2 k (hp.subset hk)⟩
def e8n(l:O aQ)(c:O nQ)(s cu:Int)(t:O Rate)(hl:l.length<=1000)(hc:c.length<=2^30):Tot (b4h l c s cu t) λr=>r.1.length<=2101:=by
 unfold b4h;simp only[a1z,y3,qA];refine tA (Q:=λb=>b=false->t.length<=40) (tD (λ_=>tC λh=>by grind) λ_=>tA (b8a t) λr hr=>tC λh=>hr (by simp_all)) λb hb=>tD (λ_=>tC (by simp)) λh=>?_;have ht:=hb (by simp_all);refine tA (e0j l c s hl hc) λall ha=>?_;obtain⟨hal,ha⟩:=ha;refine tL all (λ(m:O (Int×Int))i=>(all,m,i)) (λm _=>YrM m) (by omega) (λrec m i x hi hx hI ih=>?_) (λrec m hI=>?_) [] ⟨by simp,by simp⟩
 .rw[if_pos (o6 hi)];simp only[e7 hx,qA];have hn:Nrm x.days:=ha x (qE hx);have hnl:=c3n hn;refine tL x.days (λ(m:O (Int×Int))k=>(all,m,k)) (λm _=>YrM m) (by omega) (λrec2 m k y hk hy hI2 ih2=>?_) (λrec2 m hI2=>?_) m hI;.rw[if_pos (o6 hk)];simp only[e7 hy,qA];refine tA (c2d _) λd1 h1=>tA (c2d _) λd2 h2=>?_;obtain⟨a1,_⟩:=h1;refine tO (I:=λv:O earnings_income×O (Int×Int)×Int=>v.1=all/\YrM v.2.1/\0<=v.2.2/\v.2.2<=2101) (μ:=λv=>(2200-v.2.2).toNat) ⟨rfl,hI2,a1.1,by show d1.1<=2101;omega⟩ (by show(2200-d1.1).toNat<_;omega) ?_;rintro r3⟨w,m3,yy⟩⟨rfl,b2,b3,b4⟩ih3;dsimp only at b2 b3 b4⊢;refine tD (λhc=>?_) λ_=>ih2 m3 b2;simp at hc;rw[a42 b3 (by omega)];exact ih3 _ ⟨rfl,b2.set ⟨b3,by omega⟩ 0,by dsimp only;omega,by dsimp only;omega⟩ (by dsimp only;omega)
  simp_all
 .rw[if_neg (g9 _)];refine tA hI.keys λks hk=>?_;simp only[map_id'];refine tL ks (λ(q:O (Int×Int)×O Earning)i=>(all,q.1,q.2,ks,i)) (λq i=>q.2.length<=i) (by omega) (λrec q i y hi hy hI2 ih=>?_) (λrec q hI2=>?_) (m,[]) (by simp)
  .rw[if_pos (o6 hi)];simp only[e7 hy,qA];refine tL all (λ(m:O (Int×Int))k=>(all,m,q.2,ks,k)) (λ_ _=>True) (by omega) (λrec2 m k x hk hx _ ih2=>?_) (λrec2 m _=>?_) q.1 trivial;.rw[if_pos (o6 hk)];simp only[e7 hx,qA];have hnl:=c3n (show Nrm x.days from ha x (qE hx));refine tA (f3y _) λyy _=>tA (d4t _ (by omega)) λz hz=>tA (d4h (by omega)) λn _=>tD (λ_=>ih2 m trivial) λ_=>tA (f4c _ _) λp _=>tA (d9v _ _ _ _ t _ (by decide) ht) λw _=>tD (λ_=>tC (by simp)) λ_=>ih2 _ trivial
   .rw[if_neg (g9 _)];refine tD (λ_=>tC (by simp)) λ_=>?_;rw[p6 (by simp only[qR,qS];omega),qA];exact ih (m,_) (by simp;omega)
  .rw[if_neg (g9 _)];exact tC (by grind)
def b6y{l:O Span}(s:Span)(hl:l.length<=2^40):Tot (s6 l s) λr=>Nrm r/\r.length<=l.length:=by obtain⟨r,h1,h2,h3⟩:=c95 l s hl;obtain⟨z,m1,m2,m3,m4⟩:=c1p l hl;refine⟨r,h1,h2,Nat.le_trans (d80 s h2 (z:=z) λx=>?_) m4⟩;constructor;all_goals simp_all
def e5e(g:O gQ)(a b:Int)(hg:g.length<=2^30):Tot (b1e g a b) λr=>r.length<=g.length:=by
 refine tL g (λ(s:O Span)i=>(s,i)) (λs i=>s.length<=i) (by omega) (λrec s i y hi hy hI ih=>?_) (λrec s hI=>?_) [] (by simp);.unfold b1h;rw[if_pos (o6 hi)];simp only[e7 hy,qA,o4];refine tD (λ_=>?_) λ_=>ih s (by omega);rw[p6 (by simp only[qR,qS];omega),qA];simp_all
 .unfold b1h;dsimp only;rw[if_neg (g9 _)];exact tA (b2p (by omega)) λr hr=>tC (by omega)
def e9q(k:Int)(d:O Span)(x:O Period)(sc:Scheme)(o:O Period)(hd:d.length<=2^30)(ho:o.length<=2^30):Tot (a1s k d x sc o) λr=>r.2.length=o.length+d.length:=by
 unfold a1s;refine tL d (λ(s:O Period)i=>(s,([]:O Period),i)) (λs i=>s.length=o.length+i) (by omega) (λrec s i y hi hy hI ih=>?_) (λrec s hI=>?_) o (by simp);.dsimp only;rw[if_pos (o6 hi)];simp only[e7 hy,qA];rw[p6 (by simp only[qR,qS];omega),qA];exact ih _ (by simp;omega)
 .dsimp only;rw[if_neg (g9 _)];exact tC hI
def e53(v:Version)(k:Int)(hv:v.Credits.length<=2^30):Tot (b43 v k) λ_=>True:=by
 refine tA (Q:=λn=>n<(v.Credits.length:Int)) ?_ λn hn=>tD (λ_=>tC trivial) λh=>?_
 .refine tL v.Credits (λ(_:Unit)i=>i) (λ_ _=>True) (by omega) (λrec s i y hi hy _ ih=>?_) (λrec s _=>?_) () trivial;.unfold q0 b56;rw[if_pos (o6 hi)];simp only[e7 hy,qA];exact tD (λ_=>tC (by omega)) λ_=>ih () trivial
  .unfold q0;rw[if_neg (g9 _)];exact tC (by omega)
 .simp at h;exact tA (c6 h hn) λ_ _=>tC trivial
def e59(l:O aQ)(a b:Int)(hl:l.length<=1000):Tot (b7p l a b) λr=>r.length<=l.length:=by
 refine tL l (λ(s:O Span)i=>(s,i)) (λs i=>s.length<=i) (by omega) (λrec s i y hi hy hI ih=>?_) (λrec s hI=>?_) [] (by simp);.unfold b6o;rw[if_pos (o6 hi)];simp only[e7 hy,qA,b6f,o4];refine tD (λ_=>?_) λ_=>ih s (by omega);rw[p6 (by simp only[qR,qS];omega),qA];simp_all
 .unfold b6o;dsimp only;rw[if_neg (g9 _),c27 l (by omega),qA];exact tA (b6y _ (by omega)) λr hr=>tC (by omega)
def g6g(l:O Period)(a b:Int)(hl:l.length<=2^30):Tot (b9z l a b) λr=>Nrm r/\r.length<=l.length:=by
 unfold b9z;refine tL l (λ(s:O Span)i=>(s,i)) (λs i=>s.length<=i) (by omega) (λrec s i y hi hy hI ih=>?_) (λrec s hI=>?_) [] (by simp);.dsimp only;rw[if_pos (o6 hi)];simp only[e7 hy,qA,y3,o4];refine tD (λ_=>?_) λ_=>ih s (by omega);rw[p6 (by simp only[qR,qS];omega),qA];simp_all
 .dsimp only;rw[if_neg (g9 _)];exact tA (b2p (by omega)) λr hr=>tC ⟨hr.1,by omega⟩
def d8s:∀(l:O aQ)(k:Int),l.countP (λu=>decide (u.Ref<k))+l.countP (λu=>u.Ref==k)=l.countP (λu=>decide (u.Ref<k+1))|[],_=>rfl|u::l,k=>by have ih:=d8s l k;grind
def e0n(l:O aQ)(s:Int)(b:Span)(m:Int)(hl:l.length<=1000):Tot (b1c l s b m) λr=>r.length<=l.length:=by
 have hcl:=length_filter_le cur l;unfold b1c lpC;refine tO (I:=λv:Span×O Span×Int=>1<=v.2.2/\v.2.2<=100/\v.2.1.length<=(l.filter cur).countP (λu=>decide (u.Ref<v.2.2))) (μ:=λv=>(100-v.2.2).toNat) ⟨Int.le_refl _,by simp_all,Nat.zero_le _⟩ (by simp_all) ?_;rintro r⟨v1,out,c⟩⟨g1,g2,g3⟩ih;dsimp only at g1 g2 g3⊢;have hout:out.length<=l.length:=by have:=countP_le_length (p:=λu:aQ=>decide (u.Ref<c)) (l:=l.filter cur);omega
 refine tD (λhc=>?_) λ_=>tA (b2p (by omega)) λz hz=>tC (by omega);simp at hc;rw[b9a l (by omega),qA];have hsp:=d8s (l.filter cur) c;have go:∀o:O Span,o.length<=out.length+(l.filter cur).countP (λu=>u.Ref==c)->Tot (r (v1,o,i64 (c+1))) λr=>r.length<=l.length:=λo ho=>by rw[a42 (by omega) (by omega)];exact ih _ ⟨by dsimp only;omega,by dsimp only;omega,by dsimp only;omega⟩ (by dsimp only;omega)
 generalize l.filter cur=q at*;refine tL q (λ(d:O Span)i=>(v1,out,d,q,i)) (λd i=>d.length<=(q.take i).countP (λu=>u.Ref==c)) (by omega) (λrec d i y hi hy hI ih2=>?_) (λrec d hI=>?_) [] (by simp)
 .have hdl:d.length<=1000:=by have:=countP_le_length (p:=λu:aQ=>u.Ref==c) (l:=q.take i);rw[List.length_take]at this;omega
  rw[if_pos (o6 hi)];simp only[e7 hy,qA,o4];rw[a9h hy,countP_append]at ih2;by_cases hc2:((y.Kind==10&&y.State==s)&&y.Ref==c)=true;.rw[if_pos hc2,p6 (by simp only[qR,qS];omega),qA];simp only[qB]at hc2;exact ih2 _ (by simp[hc2.2];omega)
  .rw[if_neg hc2];exact ih2 d (by omega)
 .rw[List.take_length]at hI;have hdl:d.length<=1000:=by have:=countP_le_length (p:=λu:aQ=>u.Ref==c) (l:=q);omega
  dsimp only;rw[if_neg (g9 _)];refine tD (λ_=>?_) λ_=>go out (by omega);rw[c27 l (by omega),qA];refine tA (b6y _ (by omega)) λz1 h1=>tA (b6y _ (by omega)) λz2 h2=>tA (d18 _ (by omega)) λz3 h3=>?_;rw[p6 (by omega),qA];exact go _ (by rw[qL];omega)
def e4v(l:O aQ)(g:O gQ)(sc:O Scheme)(b:Int)(hl:l.length<=1000)(hg:g.length<=1000)(hs:sc.length<=10)(hv:∀x∈sc,x.Version.Credits.length<=2^30):Tot (a7e l g sc b) λr=>r.1.length<=sc.length*(g.length+6*l.length):=by
 unfold a7e;simp only[a1z,qA];refine tD (λ_=>tC (by simp)) λ_=>?_;refine tO (I:=λv:Int=>0<=v/\v<=(sc.length:Int)) (μ:=λv=>((sc.length:Int)-v).toNat) ⟨by omega,by omega⟩ (by omega) ?_;rintro r v⟨g1,g2⟩ih;refine tD (λhc=>?_) λ_=>?_
 .simp at hc;refine tA (c6 g1 hc) λx _=>?_;refine tA (Q:=λ_=>True) (orT (tA (Q:=λ_=>True) (tD (λhv=>?_) λ_=>tC trivial) λ_ _=>tC trivial)) λ_ _=>tD (λ_=>tC (by simp)) λ_=>?_;.simp at hv;rw[e9 (n:=v-1) (by omega) (by omega)];exact tA (c6 (by omega) (by omega)) λ_ _=>tC trivial
  .rw[a42 g1 (by omega)];exact ih _ ⟨by omega,by omega⟩ (by omega)
 .refine tL sc (λ(o:O Period)i=>(o,([]:O Period),(⟨0,b⟩:Span),i)) (λo i=>o.length<=i*(g.length+6*l.length)) (by omega) (λrec o i x hi hx hI ih2=>?_) (λrec o hI=>?_) [] (by simp)
  .have hB:i*(g.length+6*l.length)<=10*7000:=Nat.mul_le_mul (by omega) (by omega);rw[if_pos (o6 hi)];simp only[e7 hx,qA];refine tA (e5e g _ _ (by omega)) λu hu=>tA (b6y _ (by omega)) λc hc=>tA (e9q _ _ _ _ _ (by omega) (by omega)) λo1 ho1=>?_;unfold b3o;rw[qA];refine tL [(⟨6,2⟩:Anon378),(⟨9,3⟩:Anon378),(⟨7,4⟩:Anon378),(⟨8,5⟩:Anon378),(⟨10,6⟩:Anon378),(⟨5,7⟩:Anon378)] (λ(o:O Period)k=>(o,([]:O Period),(⟨0,b⟩:Span),x,[(⟨6,2⟩:Anon378),(⟨9,3⟩:Anon378),(⟨7,4⟩:Anon378),(⟨8,5⟩:Anon378),(⟨10,6⟩:Anon378),(⟨5,7⟩:Anon378)],k,())) (λo k=>o.length<=o1.2.length+k*l.length) (by simp) (λrec3 q k y hk hy hI3 ih3=>?_) (λrec3 q hI3=>?_) o1.2 (by simp)
   .have hk6:k<6:=by omega
    have hkl:k*l.length<=6*1000:=Nat.mul_le_mul (by omega) hl;have hks:(k+1)*l.length=k*l.length+l.length:=Nat.succ_mul _ _;rw[if_pos (o6 hk)];simp only[e7 hy,qA];have keep:=ih3 q (by omega);have put:∀d:O Span,d.length<=l.length->Tot (Option.bind (a1s y.rank d [] x q) λv34=>rec3 (v34.2,[],(⟨0,b⟩:Span),x,[(⟨6,2⟩:Anon378),(⟨9,3⟩:Anon378),(⟨7,4⟩:Anon378),(⟨8,5⟩:Anon378),(⟨10,6⟩:Anon378),(⟨5,7⟩:Anon378)],i64 ((k:Int)+1),())) λr=>r.1.length<=sc.length*(g.length+6*l.length):=λd hd=>tA (e9q _ _ _ _ _ (by omega) (by omega)) λz hz=>ih3 z.2 (by omega);refine tA (e53 _ _ (hv x (qE hx))) λcr _=>tD (λ_=>keep) λ_=>tA (e59 l _ _ hl) λd hd=>tA (b6y _ (by omega)) λe he=>tA (Q:=λ_=>True) (tD (λ_=>tC trivial) λ_=>tC trivial) λ_ _=>tD (λ_=>tA (e0n l _ _ _ hl) λf hf=>put f hf) λ_=>tD (λ_=>tA (d18 _ (by omega)) λf hf=>put f (by omega)) λ_=>put e (by omega)
   .refine ih2 q ?_;have h6:q.length<=o1.2.length+6*l.length:=hI3;rw[Nat.succ_mul];omega
  .rw[if_neg (g9 _)];exact tC hI
end Go.PL
