/- Texts of the proof, joined. -/
import Derived.Test.YtlnlddeandmbhaaGreatDoorP7
import Derived.KernelRfl
set_option linter.defProp false
set_option linter.unusedVariables false
set_option linter.unusedSimpArgs false
set_option maxRecDepth 100000
open List
namespace Go.PL
open Go Go.SX
def i5r{a b:Int}{k:Nat}(hk:k=1\/k=2\/k=3\/k=4)(ha:0<=a)(ha1:a<256^k)(hb:0<=b)(hb1:b<256^k)(h:b46 a k=b46 b k):a=b:=by
 have e:∀(n:Int)(j:Nat),j<=4->IntKind.u8.wrap (c8u .i64 n (8*(j:Int)))=n/2^(8*j)%256:=λn j hj=>by
  unfold c8u;rw[IntKind.wrap_u8];have:(min (8*(j:Int)).toNat IntKind.i64.bits)=8*j:=by have:IntKind.i64.bits=64:=rfl;omega
  rw[this,Int.fdiv_eq_ediv_of_nonneg _ (by exact Int.le_of_lt (Int.pow_pos (by decide)))]
 rcases hk with rfl|rfl|rfl|rfl;all_goals simp only[b46,List.cons.injEq,and_true]at h;simp(disch:=omega)only[e]at h;simp at h ha1 hb1;omega
def i8t{f g:Int->List Int}:∀{l:List Int},(∀c∈l,(f c).length=(g c).length)->l.flatMap f=l.flatMap g->∀c∈l,f c=g c
 |[],_,_,c,hc=>by cases hc|x::l,hl,h,c,hc=>by
   rw[flatMap_cons,flatMap_cons]at h;obtain⟨h1,h2⟩:=append_inj h (hl x (by simp));rcases qO.1 hc with rfl|hc;.exact h1
   .exact i8t (λc hc=>hl c (by simp[hc])) h2 c hc
def j2i{a b:aQ}(ha:vld a=true)(hb:vld b=true)(h:d5g a=d5g b):a=b:=by
 obtain⟨k1,k1',i1,n1,v1,p1,s1,A1,A2,A3,A4,A5,A6⟩:=i6a ha;obtain⟨k2,k2',i2,n2,v2,p2,s2,B1,B2,B3,B4,B5,B6⟩:=i6a hb;unfold d5g f3s at h;obtain⟨h1,h⟩:=append_inj h (by simp[b2u]);obtain⟨h2,h⟩:=append_inj h (by simp[b2u]);obtain⟨h3,h⟩:=append_inj h (by simp[b2u]);obtain⟨h4,h⟩:=append_inj h (by simp[b2u]);have h4:=i8t (l:=[0,1,2]) (f:=λj=>b46 (if j=0then(if a.Withdrawn=true then 1 else 0)else if j=1then a.Person else a.Kind) 1) (g:=λj=>b46 (if j=0then(if b.Withdrawn=true then 1 else 0)else if j=1then b.Person else b.Kind) 1) (by simp[b2u]) (by simpa using h4);have w:b46 (if a.Withdrawn=true then 1 else 0) 1=b46 (if b.Withdrawn=true then 1 else 0) 1:=h4 0 (by simp);have eP:a.Person=b.Person:=i5r (.inl rfl) (by omega) (by omega) (by omega) (by omega) (h4 1 (by simp));have eK:a.Kind=b.Kind:=i5r (.inl rfl) (by omega) (by omega) (by omega) (by omega) (h4 2 (by simp));have eI:a.Issuer=b.Issuer:=i5r (.inl rfl) (by omega) (by omega) (by omega) (by omega) h1;have eN:a.Number=b.Number:=i5r (.inr (.inl rfl)) (by omega) (by omega) (by omega) (by omega) h2;have eV:a.Version=b.Version:=i5r (.inl rfl) (by omega) (by omega) (by omega) (by omega) h3;have eW:a.Withdrawn=b.Withdrawn:=by revert w;cases a.Withdrawn<;>cases b.Withdrawn<;>intro w<;>first|rfl|exact absurd w (by decide)
 rw[<-eK]at h B1 B2 B3 B4 B5 B6;have L:=i8t (l:=ltK a.Kind) (f:=e6z a) (g:=e6z b) (λc _=>by unfold e6z;(repeat' split)<;>simp[b2u]) h;have m:∀{c:Int},(ltK a.Kind).contains c=true->e6z a c=e6z b c:=λhc=>L _ (by simpa using hc);have f:∀{c x y lo hi:Int}{k:Nat},i7h a.Kind c x lo hi->i7h a.Kind c y lo hi->(k=1\/k=2\/k=3\/k=4)->0<=lo->hi<256^k->(e6z a c=b46 x k)->(e6z b c=b46 y k)->x=y:=λ{c x y lo hi k}h1 h2 hk h0 hh e1 e2=>by
  rcases h1 with⟨c1,r1,r2⟩|⟨c1,r1⟩
  .rcases h2 with⟨c2,q1,q2⟩|⟨c2,_⟩;.exact i5r hk (by omega) (by omega) (by omega) (by omega) (e1▸e2▸m c1)
   .rw[c1]at c2;cases c2
  .rcases h2 with⟨c2,_,_⟩|⟨c2,q1⟩;.rw[c1]at c2;cases c2
   .omega
 have e1:=f A1 B1 (k:=1) (.inl rfl) (by decide) (by decide) rfl rfl;have e2:=f A2 B2 (k:=1) (.inl rfl) (by decide) (by decide) rfl rfl;have e3:=f A3 B3 (k:=1) (.inl rfl) (by decide) (by decide) rfl rfl;have e4:=f A4 B4 (k:=2) (.inr (.inl rfl)) (by decide) (by decide) rfl rfl;have e5:=f A5 B5 (k:=4) (.inr (.inr (.inr rfl))) (by decide) (by decide) rfl rfl;have e6:=f A6 B6 (k:=1) (.inl rfl) (by decide) (by decide) rfl rfl;have sp:b46 a.Span.From 3++b46 a.Span.To 3=b46 b.Span.From 3++b46 b.Span.To 3:=m (c:=80) (j1i k1 k1').2;obtain⟨s3,s4⟩:=append_inj sp (by simp[b2u]);have e7:=i5r (.inr (.inr (.inl rfl))) (by omega) (by omega) (by omega) (by omega) s3;have e8:=i5r (.inr (.inr (.inl rfl))) (by omega) (by omega) (by omega) (by omega) s4;cases a with|mk a1 a2 a3 a4 a5 a6 a7 a8 a9 a10 a11 a12 a13=>cases b with|mk b1 b2 b3 b4 b5 b6 b7 b8 b9 b10 b11 b12 b13=>cases a8;cases b8;simp_all
def j5n:∀{x y:List UInt8},Op.bytesLess x y=false->Op.bytesLess y x=false->x=y
 |[],[],_,_=>rfl|[],_::_,h,_=>by simp[Op.bytesLess]at h|_::_,[],_,h=>by simp[Op.bytesLess]at h|a::x,b::y,h1,h2=>by
   simp only[Op.bytesLess,Bool.or_eq_false_iff,decide_eq_false_iff_not,Bool.and_eq_false_iff]at h1 h2;have e:a=b:=by have e1:¬a.toNat<b.toNat:=h1.1;have e2:¬b.toNat<a.toNat:=h2.1;exact UInt8.toNat_inj.1 (by omega)
   subst e;rw[j5n (x:=x) (y:=y) (by simpa using h1.2) (by simpa using h2.2)]
def j1c:∀{x y z:List UInt8},Op.bytesLess x y=true->Op.bytesLess y z=true->Op.bytesLess x z=true
 |[],_,[],_,h=>by cases‹List UInt8›<;>simp[Op.bytesLess]at h|[],_,_::_,_,_=>rfl|_::_,[],_,h,_=>by simp[Op.bytesLess]at h|_::_,_::_,[],_,h=>by simp[Op.bytesLess]at h|a::x,b::y,c::z,h1,h2=>by
   simp only[Op.bytesLess,Bool.or_eq_true,decide_eq_true_eq,qB,beq_iff_eq]at h1 h2⊢;have lt:∀{p q:UInt8},p<q↔p.toNat<q.toNat:=Iff.rfl;rcases h1 with h1|⟨rfl,h1⟩
   .rcases h2 with h2|⟨rfl,_⟩;.exact .inl (lt.2 (Nat.lt_trans (lt.1 h1) (lt.1 h2)))
    .exact .inl h1
   .rcases h2 with h2|⟨rfl,h2⟩;.exact .inl h2
    .exact .inr ⟨rfl,j1c h1 h2⟩
def i7p:∀{x y:List Int},(∀u∈x,0<=u/\u<=255)->(∀u∈y,0<=u/\u<=255)->Lib.bytesOf x=Lib.bytesOf y->x=y|[],[],_,_,_=>rfl|[],_::_,_,_,h=>by simp[Lib.bytesOf]at h|_::_,[],_,_,h=>by simp[Lib.bytesOf]at h|a::x,b::y,hx,hy,h=>by have h:=List.cons.inj h;have e:=congrArg UInt8.toNat h.1;have h1:=hx a (by simp);have h2:=hy b (by simp);simp only[Nat.toUInt8_eq,UInt8.toNat_ofNat']at e;rw[show a=b by omega,i7p (λu hu=>hx u (by simp[hu])) (λu hu=>hy u (by simp[hu])) h.2]
def i69(n:Int):∀k,∀u∈b46 n k,0<=u/\u<=255
 |0,u,h=>by cases h|k+1,u,h=>by
   rcases qO.1 h with rfl|h;.rw[IntKind.wrap_u8];omega
   .exact i69 n k u h
def i9p(d:aQ):∀u∈d5g d,0<=u/\u<=255:=λu h=>by
 have l:∀c,∀u∈e6z d c,0<=u/\u<=255:=λc u h=>by
  unfold e6z at h;repeat' split at h
  all_goals first|exact i69 _ _ u h|(rcases qK.1 h with h|h<;>exact i69 _ _ u h)|cases h
 unfold d5g f3s at h;simp only[qK,mem_flatMap]at h;rcases h with h|h|h|⟨n,_,h⟩|⟨c,_,h⟩;.exact i69 _ _ u h
 .exact i69 _ _ u h
 .exact i69 _ _ u h
 .exact i69 _ _ u h
 .exact l c u h
def i6f(a:aQ):d5u a a=false:=by unfold d5u;generalize Lib.bytesOf (d5g a)=l;induction l with|nil=>rfl|cons x l ih=>show(decide (x<x)||(x==x&&Op.bytesLess l l))=false;rw[ih];simp
def j4w{a b:aQ}(ha:vld a=true)(hb:vld b=true)(h1:d5u a b=false)(h2:d5u b a=false):a=b:=j2i ha hb (i7p (i9p a) (i9p b) (j5n h1 h2))
def j1e{w m y:aQ}(h1:d5u m w=false)(h2:d5u m y=true):d5u y w=false:=by cases h:d5u y w with|false=>rfl|true=>have:d5u m w=true:=j1c h2 h;rw[this]at h1;cases h1
def sId(a b:aQ):Prop:=a.Issuer=b.Issuer/\a.Number=b.Number
def i62{f u:aQ}:∀{l:List aQ},l.Pairwise c2y->(u∈c4o l f↔(u∈l/\¬(sId u f/\d5u u f=true))\/(u=f/\∀w∈l,sId w f->d5u w f=true))
 |[],_=>by simp[c4o]|a::t,h=>by
   obtain⟨h1,h2⟩:=List.pairwise_cons.1 h;have ih:=i62 (f:=f) (u:=u) h2;unfold c4o;by_cases c1:c2y a f
   .have na:¬sId a f:=by unfold sId c2y at*;omega
    rw[if_pos c1];simp only[qO,ih];constructor
    .rintro(rfl|⟨h,h'⟩|⟨h,h'⟩);.exact .inl ⟨.inl rfl,λe=>na e.1⟩
     .exact .inl ⟨.inr h,h'⟩
     .exact .inr ⟨h,λw hw=>hw.elim (λe=>by subst e;exactλs=>absurd s na) (h' w)⟩
    .rintro(⟨h|h,h'⟩|⟨h,h'⟩);.exact .inl h
     .exact .inr (.inl ⟨h,h'⟩)
     .exact .inr (.inr ⟨h,λw hw=>h' w (.inr hw)⟩)
   .rw[if_neg c1];have nt:∀w∈t,c2y f a\/¬c2y a f->sId a f\/c2y f a->¬sId w f:=λw hw _ ha=>by have:=h1 w hw;unfold sId c2y at*;omega
    by_cases c2:c2y f a
    .rw[if_pos c2];have na:∀w∈a::t,¬sId w f:=λw hw=>by
      rcases qO.1 hw with rfl|hw;.unfold sId c2y at*;omega
      .exact nt w hw (.inl c2) (.inr c2)
     constructor
     .intro hu;rcases qO.1 hu with rfl|hu;.exact .inr ⟨rfl,λw hw s=>absurd s (na w hw)⟩
      .exact .inl ⟨hu,λe=>na u hu e.1⟩
     .rintro(⟨h,_⟩|⟨rfl,_⟩);.exact qJ _ h
      .exact qI ..
    .rw[if_neg c2];have sa:sId a f:=by unfold sId c2y at*;omega
     have na:∀w∈t,¬sId w f:=λw hw=>nt w hw (.inr c1) (.inl sa);by_cases c3:d5u a f=true
     .rw[if_pos c3];constructor
      .intro hu;rcases qO.1 hu with rfl|hu;.exact .inr ⟨rfl,λw hw s=>(qO.1 hw).elim (λe=>e▸c3) λhw=>absurd s (na w hw)⟩
       .exact .inl ⟨qJ _ hu,λe=>na u hu e.1⟩
      .rintro(⟨h,h'⟩|⟨rfl,_⟩)
       .rcases qO.1 h with rfl|h;.exact absurd ⟨sa,c3⟩ h'
        .exact qJ _ h
       .exact qI ..
     .rw[if_neg c3];constructor
      .intro hu;refine .inl ⟨hu,λe=>?_⟩;rcases qO.1 hu with rfl|hu;.exact c3 e.2
       .exact na u hu e.1
      .rintro(⟨h,_⟩|⟨rfl,h'⟩);.exact h
       .exact absurd (h' a (qI ..) sa) c3
def j1f{l:List aQ}(h:l.Pairwise c2y){a b:aQ}(ha:a∈l)(hb:b∈l)(s:sId a b):a=b:=by induction l with|nil=>cases ha|cons x l ih=>
   obtain⟨h1,h2⟩:=List.pairwise_cons.1 h;rcases qO.1 ha with e|ha'
   .rcases qO.1 hb with e'|hb';.rw[e,e']
    .have:=h1 b hb';subst e;unfold sId c2y at*;omega
   .rcases qO.1 hb with e'|hb';.have:=h1 a ha';subst e';unfold sId c2y at*;omega
    .exact ih h2 ha' hb'
def i6o:∀n(l:List aQ),l.length=n->(∀u,u∈e16 l↔u∈l/\vld u=true/\∀w∈l,vld w=true->sId w u->d5u u w=false)/\∀w∈l,vld w=true->∃m∈e16 l,sId m w/\d5u m w=false
 |0,l,h=>by obtain rfl:=List.length_eq_zero_iff.1 h;exact⟨λu=>⟨λh=>(by cases h),λh=>(by cases h.1)⟩,λw h=>(by cases h)⟩|n+1,l,h=>by
   rcases eq_nil_or_concat l with rfl|⟨l,y,rfl⟩;.cases h
   rw[concat_eq_append]at h⊢;obtain⟨C,E⟩:=i6o n l (by simpa using h);have hs:=(e9u l).2.1;rw[e8t];by_cases hy:vld y=true;case neg=>
    rw[if_neg hy];refine⟨λu=>?_,λw hw hv=>E w ((qK.1 hw).elim id λe=>by rw[qF]at e;subst e;exact absurd hv hy) hv⟩;rw[C];constructor;.rintro⟨h1,h2,h3⟩;exact⟨by simp[h1],h2,λw hw hv=>h3 w ((qK.1 hw).elim id λe=>by rw[qF]at e;subst e;exact absurd hv hy) hv⟩
    .rintro⟨h1,h2,h3⟩;exact⟨(qK.1 h1).elim id λe=>(by rw[qF]at e;subst e;exact absurd h2 hy),h2,λw hw=>h3 w (by simp[hw])⟩
   rw[if_pos hy];have vm:∀m∈e16 l,vld m=true:=(e9u l).1;constructor
   .intro u;rw[i62 hs];constructor
    .rintro(⟨h1,h2⟩|⟨rfl,h2⟩)
     .obtain⟨c1,c2,c3⟩:=(C u).1 h1;refine⟨by simp[c1],c2,λw hw hv s=>?_⟩;rcases qK.1 hw with hw|hw;.exact c3 w hw hv s
      .rw[qF]at hw;subst hw;cases hl:d5u u w with|false=>rfl|true=>exact absurd ⟨⟨s.1.symm,s.2.symm⟩,hl⟩ h2
     .refine⟨by simp,hy,λw hw hv s=>?_⟩;rcases qK.1 hw with hw|hw;.obtain⟨m,m1,m2,m3⟩:=E w hw hv;exact j1e m3 (h2 m m1 ⟨m2.1.trans s.1,m2.2.trans s.2⟩)
      .rw[qF]at hw;subst hw;exact i6f _
    .rintro⟨h1,h2,h3⟩;have old:u∈l->(u∈e16 l/\¬(sId u y/\d5u u y=true)):=λhu=>⟨(C u).2 ⟨hu,h2,λw hw=>h3 w (by simp[hw])⟩,λe=>by rw[h3 y (by simp) hy ⟨e.1.1.symm,e.1.2.symm⟩]at e;cases e.2⟩;rcases qK.1 h1 with hu|hu;.exact .inl (old hu)
     .rw[qF]at hu;subst hu;by_cases hx:∃w∈e16 l,sId w u/\d5u w u=false;.obtain⟨w,w1,w2,w3⟩:=hx;have wl:=((C w).1 w1).1;have e:w=u:=j4w (vm w w1) hy w3 (h3 w (by simp[wl]) (vm w w1) w2);subst e;exact .inl (old wl)
      .exact .inr ⟨rfl,λw hw s=>by cases hl:d5u w u with|true=>rfl|false=>exact absurd ⟨w,hw,s,hl⟩ hx⟩
   .intro w hw hv;have put:∀m∈e16 l,sId m y->d5u m y=true->y∈c4o (e16 l) y:=λm m1 m2 m3=>(i62 hs).2 (.inr ⟨rfl,λw' hw' s=>by rw[j1f hs hw' m1 ⟨s.1.trans m2.1.symm,s.2.trans m2.2.symm⟩];exact m3⟩);rcases qK.1 hw with hw|hw
    .obtain⟨m,m1,m2,m3⟩:=E w hw hv;by_cases hm:sId m y/\d5u m y=true;.exact⟨y,put m m1 hm.1 hm.2,⟨hm.1.1.symm.trans m2.1,hm.1.2.symm.trans m2.2⟩,j1e m3 hm.2⟩
     .exact⟨m,(i62 hs).2 (.inl ⟨m1,hm⟩),m2,m3⟩
    .rw[qF]at hw;subst hw;by_cases hx:∃m∈e16 l,sId m w;.obtain⟨m,m1,m2⟩:=hx;cases hl:d5u m w with|true=>exact⟨w,put m m1 m2 hl,⟨rfl,rfl⟩,i6f _⟩|false=>exact⟨m,(i62 hs).2 (.inl ⟨m1,λe=>by rw[hl]at e;cases e.2⟩),m2,hl⟩
     .exact⟨w,(i62 hs).2 (.inr ⟨rfl,λv hv s=>absurd ⟨v,hv,s⟩ hx⟩),⟨rfl,rfl⟩,i6f _⟩
def i8q:∀{l m:List aQ},l.Pairwise c2y->m.Pairwise c2y->(∀u,u∈l↔u∈m)->l=m
 |[],[],_,_,_=>rfl|[],b::m,_,_,h=>by have:=(h b).2 (by simp);cases this|a::l,[],_,_,h=>by have:=(h a).1 (by simp);cases this|a::l,b::m,h1,h2,h=>by
   obtain⟨a1,a2⟩:=List.pairwise_cons.1 h1;obtain⟨b1,b2⟩:=List.pairwise_cons.1 h2;have e:a=b:=by
    rcases qO.1 ((h a).1 (by simp))with e|e;.exact e
    .rcases qO.1 ((h b).2 (by simp))with e'|e';.exact e'.symm
     .have:=b1 a e;have:=a1 b e';unfold c2y at*;omega
   subst e;have ir:∀u,¬c2y u u:=λu h=>by unfold c2y at h;omega
   rw[i8q a2 b2 λu=>⟨λhu=>((qO.1 ((h u).1 (by simp[hu]))).elim (λe=>by subst e;exact absurd (a1 _ hu) (ir _)) id),λhu=>((qO.1 ((h u).2 (by simp[hu]))).elim (λe=>by subst e;exact absurd (b1 _ hu) (ir _)) id)⟩]
def j3b{l m:List aQ}(h:∀u,u∈l↔u∈m):e16 l=e16 m:=i8q (e9u l).2.1 (e9u m).2.1 λu=>by rw[(i6o _ l rfl).1,(i6o _ m rfl).1,h];simp only[h]
def j4u{l:List aQ}(hv:∀u∈l,vld u=true)(hs:l.Pairwise c2y):e16 l=l:=by have h:=i6o _ l rfl;refine i8q (e9u l).2.1 hs λu=>?_;rw[h.1 u];refine⟨λg=>g.1,λg=>⟨g,hv u g,λw hw _ s=>?_⟩⟩;rw[j1f hs hw g s];exact i6f u
def j2y(l:List aQ):e16 (e16 l)=e16 l:=j4u (e9u l).1 (e9u l).2.1
def aF:List aQ:=[(⟨0,1,1,false,1,1,0,(⟨30000,30010⟩:Span),0,100,1,500,0⟩:aQ)]
def aT:List Rules:=[(⟨0,0,0,0,[0]⟩:Rules)]
def aV:Version:=⟨0,(⟨1,1⟩:Rounding),[],[],[],[(⟨1,(⟨16,(⟨0,0⟩:fQ),0,a3j,[(⟨2,(⟨0,0⟩:fQ),0,b6u,[]⟩:Expr),(⟨1,(⟨5,1⟩:fQ),3,a3j,[]⟩:Expr)]⟩:Expr),(⟨1,(⟨77,1⟩:fQ),4,a3j,[]⟩:Expr)⟩:Grant)],[]⟩
def aB:bQ:=⟨⟨[⟨0,⟨c91,1,[aV]⟩⟩],aT,[]⟩,31000,⟨0,0,0,0,[0]⟩⟩
def aP:competence_Postings aF=some []:=by have hv:∀u∈aF,vld u=true:=List.forall_mem_singleton.2 (by kernel_rfl);obtain⟨P,hP,hm,_⟩:=c90 (⟨hv,by decide,by decide⟩:a48 aF);rw[hP];cases P with|nil=>rfl|cons p P=>
   have e:f3b aF p.Seat p.State=[]:=by kernel_rfl
   have h1:p.Span∈d4o (f3b aF p.Seat p.State) (a4q aF):=(hm p).1 (by simp);rw[e,List.length_eq_zero_iff.1 (Nat.le_zero.1 (b8o [] (a4q aF) (by decide)).2.2.2)]at h1;grind
def aLaw:a4h aF aT=some [(⟨(⟨30000,30010⟩:Span),0,3⟩:gQ)]:=by unfold a4h a9c;rw[aP];kernel_rfl
def aCn:List nQ:=[(⟨(⟨30000,30010⟩:Span),0,1⟩:nQ)]
def aCnt:a2z aB aF 0=some aCn:=by unfold a2z a0s lpC;rw[show a08 aB 0=some true from by kernel_rfl,qA,if_pos rfl,show FU=1180591620717411303422+1+1from rfl,d24];dsimp only;rw[if_pos (by decide),show c7 aB.laws.States 0=some ⟨0,⟨c91,1,[aV]⟩⟩from rfl,qA];rw[show a08 aB 0=some true from by kernel_rfl,qA,if_pos rfl,show b1v ⟨c91,1,[aV]⟩ aB.day=some (aV,true)from by kernel_rfl,qA,p6 (by decide),qA,d24];rw[if_neg (by decide),show aB.laws.Treaty=aT from rfl,aLaw,qA];kernel_rfl
def e4y:b2m=some true:=by show Option.bind (b47 aB.laws aF 0 1 31000) _=_;unfold b47;rw[show b8v aB.laws 31000=some (aB,0)from by kernel_rfl,qA,if_pos (by decide)];unfold a8d;rw[show a2v aB 0=some (⟨c91,1,[aV]⟩,aV,0)from by kernel_rfl,qA,if_neg (by decide),aCnt];kernel_rfl
def i83(l:List aQ)(y:aQ)(hl:(e16 l).length<=2^20):i4d (e16 l) [y]=some (e16 (l++[y])):=by
 have ho:=e9u l;unfold i4d;rw[i5b _ hl,qA,j2y,i5b [y] (by simp),qA];have hm:i3v (e16 l) (e16 [y])=some (e16 (l++[y])):=by rw[e8t];cases hv:vld y with|false=>have:=i8y 1180591620717411303423 (e16 l) [] (by simp;omega);rw[show e16 [y]=[]by simp[e16,hv],if_neg (by simp)];exact this|true=>have:=j0k hv (e16 l) [] FU ho.1 (by simp;omega) (by unfold FU;omega);rw[show e16 [y]=[y]by simp[e16,hv,c4o],if_pos rfl];exact this
 rw[hm];rfl
def i6k(a:Int){n:Int}(h0:1<=n)(h1:n<=1000000):Tot (a40 a n) λr=>0<=r/\r<n:=by have h2:=Int.tmod_lt_of_pos a h0;have h3:-n<a.tmod n:=Int.lt_tmod_of_pos a h0;refine tD (λh=>by simp at h;omega) λ_=>?_;rw[d04 (by omega),qA,e9 (by omega) (by omega),d04 (by omega),qA];have h4:=Int.tmod_lt_of_pos (a.tmod n+n) h0;have h5:=Int.tmod_nonneg n (show 0<=a.tmod n+n by omega);exact tC ⟨h5,h4⟩
def i6j(l:List tN)(n order:List Int)(at_ benefit:Int)(hl:l.length<=9223372036854775807)(_:n.length<=9223372036854775807)(_:order.length<=9223372036854775807):i42 l n order at_ benefit=some true:=by
 obtain⟨r,hr,h⟩:Tot (i42 l n order at_ benefit) λr=>r=true:=by
  unfold i42;rw[a1z,qA];refine tD (λ_=>tC rfl) λhn=>?_;simp at hn;refine tA (Q:=LW) ?_ λx hx=>tA (Q:=λ_=>True) ?_ λd _=>tA (i6k _ (by omega) (by omega)) λb _=>?_;.exact tA (g3f (by omega)) λx hx=>tC hx
  .exact tA (b4f (by decide)) λ_ _=>tD (λ_=>tC trivial) λ_=>tA (i6k _ (by omega) (by omega)) λ_ _=>tC trivial
  refine tO (I:=λv:Laws×List aQ×Int=>v.1=x/\0<=v.2.2/\v.2.2<=10/\(v.2.1.length:Int)=v.2.2) (μ:=λv=>(10-v.2.2).toNat) ⟨rfl,Int.le_refl _,by dsimp only;omega,rfl⟩ (by dsimp only;omega) ?_;rintro r⟨x',o,k⟩⟨g0,g1,g2,g3⟩ih;dsimp only at g0 g1 g2 g3;subst g0;unfold i4g;dsimp only;rw[a7h,qA];refine tD (λhc=>?_) λ_=>tA (f7m (by omega)) λv hv=>?_;.simp at hc;refine tA (c6 g1 hc.1) λf _=>tA (i6k _ (by omega) (by omega)) λ_ _=>tA (f5k _) λm _=>?_;rw[p6 (by simp only[qR,qS];omega),qA,a42 g1 (by omega)];exact ih _ ⟨rfl,by dsimp only;omega,by dsimp only;omega,by simp;omega⟩ (by dsimp only;omega)
  have hp:=g5h v 1;have hf:=length_filter_le c30 o;have hz:(ofP v 1).filter c30=[]:=by rw[filter_eq_nil_iff];intro u hu h;exact hv.2 u (List.mem_filter.1 hu).1 (by simpa[c30]using h)
  have hR:(o++ofP v 1).length<=25:=by rw[qL];omega
  have hG:a48 (e16 (o++ofP v 1)):=e44 (by omega) (by rw[filter_append,hz,append_nil];omega);rw[g9t v 1 (by omega),qA,p6 (by omega),qA,j1m _ (by omega),qA];generalize o++ofP v 1=R at*;refine tO (I:=λv:Laws×List aQ×List aQ×List aQ×Int=>v.1=x'/\v.2.1=R/\v.2.2.1=e16 R/\(0<=v.2.2.2.2/\v.2.2.2.2<=40)/\∃t:List aQ,(∀u∈t,u∈R)/\(t.length:Int)<=v.2.2.2.2/\v.2.2.2.1=e16 t) (μ:=λv=>(40-v.2.2.2.2).toNat) ⟨rfl,rfl,rfl,⟨by dsimp only;omega,by dsimp only;omega⟩,[],by simp,by simp,rfl⟩ (by dsimp only;omega) ?_;rintro r2⟨x2,R2,M2,h2,i⟩⟨e1,e2,e3,g4,t,t1,t2,e4⟩ih2;dsimp only at e1 e2 e3 g4 t2 e4;subst e1 e2 e3 e4;unfold i4j;dsimp only;rw[a7h,qA];have hm:=(e9u t).2.2;refine tD (λhc=>?_) λ_=>?_;.simp at hc;refine tA (c6 g4.1 hc.1) λy _=>tA (i6k _ (by omega) (by omega)) λp hp=>tA (c6 hp.1 hp.2) λf hf=>tA (c6 hp.1 hp.2) λf hf=>?_;rw[i83 t f (by omega),qA,a42 g4.1 (by omega)];exact ih2 _ ⟨rfl,rfl,rfl,⟨by dsimp only;omega,by dsimp only;omega⟩,t++[f],λu hu=>(b4a hu).elim (t1 u) λe=>e▸hf,by simp;omega,rfl⟩ (by dsimp only;omega)
  rw[e9 (by omega) (by omega)];refine tO (I:=λw:Laws×List aQ×List aQ×List aQ×Int=>w.1=x2/\w.2.1=R2/\w.2.2.1=e16 R2/\(-1<=w.2.2.2.2/\w.2.2.2.2<R2.length)/\∃t:List aQ,(∀u∈t,u∈R2)/\(t.length:Int)+w.2.2.2.2<=70/\w.2.2.2.1=e16 t/\∀(j:Nat)(y:aQ),w.2.2.2.2<j->R2[j]?=some y->y∈t) (μ:=λw=>(w.2.2.2.2+1).toNat) ⟨rfl,rfl,rfl,⟨by dsimp only;omega,by dsimp only;omega⟩,t,t1,by dsimp only;omega,rfl,λj y h1 h2=>by have:=(qD.1 h2).1;dsimp only at h1;omega⟩ (by dsimp only;omega) ?_;clear hm t2 t1;rintro r3⟨x3,R3,M3,h3,i3⟩⟨e1,e2,e3,g5,t,t1,t2,e4,t3⟩ih3;dsimp only at e1 e2 e3 g5 t2 e4 t3;subst e1 e2 e3 e4;unfold i4h;dsimp only;have hm:=(e9u t).2.2;refine tD (λhc=>?_) λhc=>?_
  .simp at hc;obtain⟨k3,rfl⟩:=qT hc;have hy:R3[k3]?=some R3[k3]:=qG (by omega);rw[e7 hy,qA,qA,i83 t _ (by omega),qA,e9 (by omega) (by omega)];refine ih3 _ ⟨rfl,rfl,rfl,⟨by dsimp only;omega,by dsimp only;omega⟩,t++[R3[k3]],λu hu=>(b4a hu).elim (t1 u) λe=>e▸qV _,by simp;omega,rfl,λj y h1 h2=>?_⟩ (by dsimp only;omega);dsimp only at h1;by_cases h:j=k3;.subst h;rw[hy]at h2;cases h2;simp
   .exact mem_append_left _ (t3 j y (by omega) h2)
  .simp at hc;have e:e16 t=e16 R3:=j3b λu=>⟨t1 u,λhu=>by obtain⟨j,hj⟩:=mem_iff_getElem?.1 hu;exact t3 j u (by omega) hj⟩;rw[e];obtain⟨p,hp,hl3,hs⟩:=g9s hx hG (i64 (1+b)) d;have h3:=hx.2.1;have hp0:((p.length:Int)==0)=false:=by rw[hl3,h3];rfl
   rw[hp,qA,qA,e4y,qA];simp only[qU,qM,if_false,bne_self_eq_false,qA,hp0];refine tH p (λ(_:Unit)i=>(p,p,i)) (λ_ _=>True) (by omega) (λrec _ i y hi hy _ ih=>?_) (λrec _ _=>?_) () trivial;.unfold i43;rw[if_pos (o6 hi)];have hs2:x3.States[i]?=some x3.States[i]:=qG (by omega);obtain⟨a,ha,ho,hk⟩:=hs i _ hs2;rw[hy]at ha;cases ha;simp only[e7 hy,qA,d0r y hk,qU,qM,if_false];exact ih () trivial
   .unfold i43;rw[if_neg (g9 _)];exact tC rfl
 simp_all
end Go.PL
