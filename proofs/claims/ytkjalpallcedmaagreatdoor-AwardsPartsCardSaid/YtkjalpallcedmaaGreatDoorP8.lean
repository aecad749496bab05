/- Texts of the proof, joined. -/
import Derived.Test.YtkjalpallcedmaaGreatDoorP7
import Derived.KernelRfl
set_option linter.defProp false
set_option linter.unusedVariables false
set_option linter.unusedSimpArgs false
set_option maxRecDepth 100000
open List
namespace Go.PL
open Go Go.SX
def k8k{α:Type}(z:α)(x:Ar 6 α){i j:Int}(y:α)(hi:0<=i/\i<6)(hj:0<=j):Ar.gt z (Ar.set x i y) j=if j=i then y else Ar.gt z x j:=by
 have hx:=x.h;unfold Ar.gt Ar.set c7 a8h;by_cases h:j=i;.simp_all
 .have:i.toNat≠j.toNat:=by omega
  simp_all
def k4i{r d:List Span}(hr:Nrm r)(h:∀x,InS r x↔InS d x/\0<=x/\x<73049)(hd:∀s∈d,0<=s.From/\s.From<s.To/\s.To<=73049):r=[]↔d=[]:=by
 constructor;.rintro rfl;cases d with|nil=>rfl|cons s d=>have g:=hd s (by simp);have:InS [] s.From:=(h s.From).2 ⟨⟨s,by simp,by omega⟩,by omega⟩;exact absurd this d0f
 .rintro rfl;cases r with|nil=>rfl|cons s r=>have g:=hr.1 s (by simp);have:InS [] s.From:=((h s.From).1 ⟨s,by simp,by omega⟩).1;exact absurd this d0f
def CO(c:List nQ):Prop:=c.length<=2000000/\∀u∈c,(0<=u.Span.From/\u.Span.From<u.Span.To/\u.Span.To<=73049)/\0<=u.State/\u.State<3
def k7z{c:List nQ}(hc:CO c)(j:Int):Tot (b6i c j 0) λr=>Nrm r/\r.length<=2000000/\(r=[]↔∀u∈c,u.State≠j):=by
 have hl:=hc.1;unfold b6i;refine tH c (λ(s:List Span)i=>(s,i)) (λs i=>s=((c.take i).filter λu=>u.State==j).map (·.Span)) (by omega) (λrec s i y hi hy hI ih=>?_) (λrec s hI=>?_) [] rfl
 .dsimp only;rw[if_pos (o6 hi)];have ht:=a9h hy;have hs:s.length<=2000000:=by rw[hI,List.length_map];have:=length_filter_le (λu:nQ=>u.State==j) (c.take i);rw[List.length_take]at this;omega
  simp only[e7 hy,qA,beq_self_eq_true,if_true];cases hq:y.State==j with|true=>simp only[if_true,qA];rw[p6 (by simp only[qR,qS];omega),qA];exact ih _ (by rw[ht,filter_append,List.map_append,hI];simp[hq])|false=>simp only[qM,if_false,qA];exact ih _ (by rw[ht,filter_append,List.map_append,hI];simp[hq])
 .dsimp only;rw[if_neg (g9 _),List.take_length]at*;have hs:s.length<=2000000:=by rw[hI,List.length_map];have:=length_filter_le (λu:nQ=>u.State==j) c;omega
  obtain⟨r,h1,h2,h3,h4⟩:=c1p s (by omega);rw[h1,qA];refine tC ⟨h2,by omega,(k4i h2 h3 λx hx=>?_).trans ?_⟩;.rw[hI]at hx;obtain⟨u,hu,rfl⟩:=List.mem_map.1 hx;exact(hc.2 u (List.mem_filter.1 hu).1).1
  .rw[hI,map_eq_nil_iff,List.filter_eq_nil_iff];exact⟨λh u hu e=>h u hu (by simp[e]),λh u hu e=>h u hu (by simpa using e)⟩
def k68{r:List Span}(hr:Nrm r)(hl:r.length<=2000000):Tot (b6h r) λq=>0<=q/\q<=73049/\(q=0↔r=[]):=by
 obtain⟨z,h1,h2,h3,h4⟩:=c1p r (by omega);have hz:z=[]↔r=[]:=k4i h2 h3 hr.1;unfold b6h c0z;rw[h1,qA];refine tA (Q:=λq=>0<=q/\q<=73049/\(q=0↔z=[])) ?_ λq hq=>tC ⟨hq.1,hq.2.1,hq.2.2.trans hz⟩;refine tH z (λ(s:Int)i=>(s,z,i)) (λs i=>0<=s/\(i=0->s=0)/\(0<i->0<s)/\∀y∈z[i-1]?,s<=y.To) (by omega) (λrec s i y hi hy hI ih=>?_) (λrec s hI=>?_) 0 ⟨Int.le_refl _,λ_=>rfl,λh=>by omega,λy hy=>by have:=(h2.1 y (qE hy));omega⟩
 .obtain⟨i1,i2,i3,i4⟩:=hI;have hy2:=h2.1 y (qE hy);have hsy:s<=y.From:=by
   by_cases h0:i=0;.rw[i2 h0];omega
   .have hp:z[i-1]?=some z[i-1]:=qG (by omega);have:=List.pairwise_iff_getElem.1 h2.2 (i-1) i (by omega) hi (by omega);have e:z[i]=y:=by rw[qG hi]at hy;exact qH hy
    rw[e]at this;have:=i4 _ hp;omega
  dsimp only;rw[if_pos (o6 hi)];simp only[e7 hy,qA];rw[if_pos (by simp;omega),show min y.To 73049=y.To by omega,e9 (n:=y.To-y.From) (by omega) (by omega),e9 (n:=s+(y.To-y.From)) (by omega) (by omega)];refine ih _ ⟨by omega,λh=>by omega,λ_=>by omega,λw hw=>?_⟩;rw[Nat.add_sub_cancel,hy]at hw;cases hw;omega
 .dsimp only;rw[if_neg (g9 _)];obtain⟨i1,i2,i3,i4⟩:=hI;refine tC ⟨i1,?_,?_⟩
  .by_cases h0:z.length=0;.rw[i2 h0];omega
   .have hp:z[z.length-1]?=some z[z.length-1]:=qG (by omega);have:=i4 _ hp;have:=h2.1 _ (qE hp);omega
  .constructor
   .intro h;rcases Nat.eq_zero_or_pos z.length with h0|h0;.exact List.length_eq_zero_iff.1 h0
    .have:=i3 h0;omega
   .rintro rfl;exact i2 rfl
def k5k{r:List Span}(hr:Nrm r)(hl:r.length<=2000000):Tot (b90 r) λq=>(q.2=true↔r≠[])/\(q.2=true->0<=q.1):=by
 obtain⟨z,h1,h2,h3,h4⟩:=c1p r (by omega);have hz:z=[]↔r=[]:=k4i h2 h3 hr.1;unfold b90;rw[h1,qA];refine tD (λh=>?_) λh=>?_;.have:z=[]:=List.length_eq_zero_iff.1 (by simpa using h);exact tC ⟨by simp[hz.1 this],λh=>by cases h⟩
 .have h0:z.length≠0:=by simpa using h
  rw[e9 (n:=(z.length:Int)-1) (by omega) (by omega)];refine tA (c6 (by omega) (by omega)) λ_ _=>tA (c6 (by omega) (by omega)) λy hy=>?_;have g:=h2.1 y hy;rw[e9 (by omega) (by omega)];exact tC ⟨by simp only[true_iff];exactλe=>h0 (by rw[hz.2 e];rfl),λ_=>by dsimp only;omega⟩
def k53(f:Int->Int):Nat->Int|0=>0|n+1=>k53 f n+f n
def k2z{f g:Int->Int}:∀{n:Nat},(∀j:Nat,j<n->f j=g j)->k53 f n=k53 g n|0,_=>rfl|n+1,h=>by have:=k2z (n:=n) λj hj=>h j (by omega);simp only[k53,this,h n (by omega)]
def k3m{f:Int->Int}:∀{n:Nat},(∀j:Nat,j<n->0<=f j/\f j<=73049)->0<=k53 f n/\k53 f n<=73049*n|0,_=>by simp[k53]|n+1,h=>by have h1:=k3m (n:=n) λj hj=>h j (by omega);have h2:=h n (by omega);simp only[k53];omega
def own(t:Total)(j:Int):Int:=Ar.gt 0 t.Own j
def fwO(t:Total)(j:Int):Bool:=Ar.gt false t.Few j
def k2x(t:Total)(j:Int):Int:=if fwO t j=true then 0 else own t j
structure TO(c:List nQ)(t:Total)(la:Int)(k:Nat):Prop where
 o:∀j:Nat,j<k->(0<=own t j/\own t j<=73049)/\(own t j=0↔∀u∈c,u.State≠j)/\(fwO t j=true->0<own t j)s:t.Sum=k53 (own t) k
 b:t.Base=k53 (k2x t) k
 l:(la=-1/\t.Last=-1/\∀j:Nat,j<k->own t j=0)\/(0<=la/\∃q:Nat,q<k/\t.Last=q/\0<own t q)
def k4r{c:List nQ}(hc:CO c)(m:Int):Tot (b41 c m) λt=>∃la,TO c t la 6:=by
 have hl:=hc.1;unfold b41 lpC;refine tO (I:=λv:Total×Total×Int×Int=>∃k:Nat,v.2.2.2=k/\k<=6/\TO c v.2.1 v.2.2.1 k) (μ:=λv=>(6-v.2.2.2).toNat) ⟨0,rfl,by omega,λj h=>by omega,rfl,rfl,.inl ⟨rfl,rfl,λj h=>by omega⟩⟩ (by dsimp only;omega) ?_;rintro r⟨t0,t,la,k0⟩⟨k,e,hk,hT⟩ih;dsimp only at e hT;subst e;refine tD (λhlt=>?_) λhlt=>tC ⟨la,by simp at hlt;rw[show k=6by omega]at hT;exact hT⟩;simp at hlt;have hi:d0n 6 (k:Int)=some ():=by unfold d0n;rw[if_pos (by omega)]
 refine tA (Q:=λq=>(0<=q/\q<=73049)/\(q=0↔∀u∈c,u.State≠k)) ?_ λq hq=>?_;.exact tA (k7z hc _) λr hr=>tA (k68 hr.1 hr.2.1) λq hq=>tC ⟨⟨hq.1,hq.2.1⟩,hq.2.2.trans hr.2.2⟩
 have gs:∀{α:Type}(z:α)(x:Ar 6 α)(y:α)(j:Nat),Ar.gt z (Ar.set x k y) j=if j=k then y else Ar.gt z x j:=λz x y j=>by rw[k8k z x y (by omega) (by omega)];simp only[Int.natCast_inj]
 simp only[hi,qA,gs,if_true];have hs:=k3m (f:=own t) (n:=k) λj hj=>(hT.o j hj).1;have hb:=k3m (f:=k2x t) (n:=k) λj hj=>by have:=(hT.o j hj).1;unfold k2x;split<;>omega
 have fin:∀t1:Total,(∀j:Nat,own t1 j=if j=k then q else own t j)->(fwO t1 k=true->0<q)->(∀j:Nat,j≠k->fwO t1 j=fwO t j)->t1.Sum=t.Sum+q->t1.Base=t.Base+(if fwO t1 k=true then 0 else q)->t1.Last=t.Last->Tot (b06 r (c,m,t0,t1,la,k,k)) λt=>∃la,TO c t la 6:=by
  intro t1 h1 h2 h3 h4 h5 h6;have o:∀(t2:Total),t2.Own=t1.Own->t2.Few=t1.Few->t2.Sum=t1.Sum->t2.Base=t1.Base->∀la2:Int,((la2=-1/\t2.Last=-1/\∀j:Nat,j<k+1->own t2 j=0)\/(0<=la2/\∃q:Nat,q<k+1/\t2.Last=q/\0<own t2 q))->TO c t2 la2 (k+1):=by
   intro t2 e1 e2 e3 e4 la2 e5;have f1:∀j:Nat,own t2 j=if j=k then q else own t j:=λj=>by rw[<-h1 j];unfold own;rw[e1]
   have f2:∀j:Nat,fwO t2 j=fwO t1 j:=λj=>by unfold fwO;rw[e2]
   refine⟨λj hj=>?_,?_,?_,e5⟩
   .rw[f1,f2];by_cases h:j=k;.subst h;rw[if_pos rfl];exact⟨hq.1,hq.2,h2⟩
    .rw[if_neg h,h3 j h];exact hT.o j (by omega)
   .rw[e3,h4,hT.s];simp only[k53,f1 k,if_true];rw[k2z (f:=own t2) (g:=own t) λj hj=>by rw[f1,if_neg (by omega)]]
   .rw[e4,h5,hT.b];have p:k2x t2 k=if fwO t1 k=true then 0 else q:=by unfold k2x;rw[f2,f1,if_pos rfl]
    simp only[k53,p];rw[k2z (f:=k2x t2) (g:=k2x t) λj hj=>by unfold k2x;rw[f2,f1,h3 j (by omega),if_neg (show¬j=k by omega)]]
  unfold b06;refine tA (k7z hc _) λx hx=>tA (k5k hx.1 hx.2.1) λy hy=>?_;have hx2:x=[]↔q=0:=hx.2.2.trans hq.2.symm;dsimp only;rw[a42 (x:=(k:Int)) (by omega) (by omega)];have nxt:∀(a:Total)(b:Int),TO c a b (k+1)->Tot (r (t0,a,b,(k:Int)+1)) λt=>∃la,TO c t la 6:=λa b h=>ih _ ⟨k+1,by dsimp only;omega,by omega,h⟩ (by dsimp only;omega);refine tA (Q:=λb=>(b=true->y.2=true/\la<y.1)/\(b=false->y.2=false\/y.1<=la)) (tD (λh=>tC (by simp[h])) λh=>tC (by simp[h])) λb hb2=>tD (λh=>?_) λh=>?_
  .obtain⟨g1,g2⟩:=hb2.1 h;refine nxt _ _ (o (⟨t1.Own,t1.Few,t1.Sum,t1.Base,k⟩:Total) rfl rfl rfl rfl _ (.inr ⟨hy.2 g1,k,by omega,rfl,?_⟩));have:own t1 k=q:=by rw[h1,if_pos rfl]
   have hq0:q≠0:=λe=>hy.1.1 g1 (hx2.2 e);show 0<own t1 k;omega
  .refine nxt _ _ (o _ rfl rfl rfl rfl _ ?_);rcases hT.l with⟨l1,l2,l3⟩|⟨l1,p,l2,l3,l4⟩
   .refine .inl ⟨l1,h6.trans l2,λj hj=>?_⟩;rw[h1];by_cases e:j=k
    .rw[if_pos e];rcases hb2.2 (by simpa using h)with g|g
     .by_cases q0:q=0;.exact q0
      .have:=hy.1.2 λe=>q0 (hx2.1 e);rw[g]at this;cases this
     .by_cases q0:q=0;.exact q0
      .have:=hy.2 (hy.1.2 λe=>q0 (hx2.1 e));omega
    .rw[if_neg e];exact l3 j (by omega)
   .exact .inr ⟨l1,p,by omega,h6.trans l3,by rw[h1,if_neg (by omega)];exact l4⟩
 refine tA (Q:=λw=>w=true->0<q) (tD (λh=>tC λ_=>by simpa using h) λ_=>tC λh=>by cases h) λw hw=>?_;have oo:∀j:Nat,Ar.gt 0 (Ar.set t.Own k q) j=if j=k then q else own t j:=λj=>gs 0 t.Own q j;have ff:∀j:Nat,j≠k->Ar.gt false (Ar.set t.Few k w) j=fwO t j:=λj h=>by rw[gs,if_neg h];rfl
 have fk:Ar.gt false (Ar.set t.Few k w) k=w:=by rw[gs,if_pos rfl]
 have e1:i64 (t.Sum+q)=t.Sum+q:=by rw[hT.s];exact e9 (by omega) (by omega)
 have e2:i64 (t.Base+q)=t.Base+q:=by rw[hT.b];exact e9 (by omega) (by omega)
 refine tD (λh=>tJ (fin _ oo (by unfold fwO;rw[fk];exact hw) ff e1 ?_ rfl)) λh=>tJ (fin _ oo (by unfold fwO;rw[fk];exact hw) ff e1 ?_ rfl);.show i64 (t.Base+q)=_;unfold fwO;rw[fk,e2,if_neg (by simpa using h)]
 .show t.Base=_;unfold fwO;rw[fk,if_pos (by simpa using h)];omega
def FrS(t:Total)(j:Int):Int×Int:=if fwO t j=false/\0<own t j/\0<t.Base then(own t j,t.Base)else if t.Base=0/\0<t.Sum/\j=t.Last then(1,1)else(0,1)
def k3x(t:Total){j:Int}(h0:0<=j)(h1:j<6):b2k t j=some (FrS t j):=by
 have hi:d0n 6 j=some ():=by unfold d0n;rw[if_pos (by omega)]
 unfold b2k FrS fwO own;rw[if_neg (by simp;omega),qA,if_neg (by simp;omega)];simp only[hi,qA];cases Ar.gt false t.Few j<;>simp only[qU,Bool.not_false,if_true,qM,if_false,qA,Bool.true_eq_false,false_and,true_and]<;>grind
def k58:List Rate:=[(⟨1,0,(⟨1,1⟩:fQ)⟩:Rate),(⟨2,0,(⟨3,2⟩:fQ)⟩:Rate),(⟨3,0,(⟨1,7⟩:fQ)⟩:Rate),(⟨3,1150,(⟨1,9⟩:fQ)⟩:Rate)]
def LW(x:Laws):Prop:=TrF x.Treaty/\x.States.length=3/\(∀s∈x.States,(0<=s.State/\s.State<6)/\SE s.Statute/\b4b s.Statute=some (0,0))/\(∀(i:Nat)(s:State),x.States[i]?=some s->s.State=i)/\x.Rates=k58
def g3f{l:List Int}(hl:l.length<=9223372036854775807):Tot (b11 l) LW:=by
 refine tO (σ:=(List State)×(List Rules)×(List Rate)×Laws×(List State)×(List Rules)×Laws×Int) (I:=λv=>0<=v.2.2.2.2.2.2.2/\v.2.2.2.2.2.2.2<=3/\(v.2.2.2.2.1.length:Int)=v.2.2.2.2.2.2.2/\(∀s∈v.2.2.2.2.1,(0<=s.State/\s.State<6)/\SE s.Statute/\b4b s.Statute=some (0,0))/\(∀(i:Nat)(s:State),v.2.2.2.2.1[i]?=some s->s.State=i)/\v.2.2.2.2.2.2.1.Rates=k58) (μ:=λv=>(3-v.2.2.2.2.2.2.2).toNat) ⟨Int.le_refl _,by simp_all,rfl,λs h=>by grind,λi s h=>by simp at h,rfl⟩ (by simp_all) ?_;rintro r⟨v1,v2,v3,v4,s,v6,v7,k⟩⟨g1,g2,g3,g4,g5,g6⟩ih;dsimp only at g1 g2 g3 g4 g5 g6⊢;unfold b71;dsimp only;refine tD (λhc=>?_) λhc=>?_
 .simp at hc;obtain⟨m,rfl⟩:=qT g1;obtain⟨t,x,e1,e2,e3⟩:=j1x (k:=m) (by omega) l hl;rw[e1,qA,e2,qA,a42 g1 (by omega)];dsimp only;rw[if_pos (show((0:Int)==0)=true from rfl),p6 (by simp;omega),qA];refine ih _ ⟨by dsimp only;omega,by dsimp only;omega,by simp;omega,λs hs=>(b4a hs).elim (g4 s) λe=>by subst e;exact⟨⟨g1,by dsimp only;omega⟩,k29 e3,j4h e3⟩,λi y hi=>?_,g6⟩ (by dsimp only;omega);dsimp only at hi;rcases Nat.lt_or_ge i s.length with h|h;.rw[List.getElem?_append_left h]at hi;exact g5 i y hi
  .rw[List.getElem?_append_right h]at hi;have h2:=(qD.1 hi).1;have:i-s.length=0:=by simp at h2;omega
   rw[this]at hi;simp at hi;subst hi;dsimp only;omega
 .simp at hc;refine tA (a0t _ _ hl) λa _=>tA (a1i (by omega) (by omega)) λb hb=>tA (a0t _ _ hl) λc _=>tA (a1i (by omega) (by omega)) λd _=>?_;have e0:∀x:Rules,c7 [x] 0=some x:=λx=>rfl;have e1:∀x y:Rules,a8h [x] 0 y=[y]:=λx y=>rfl;have e2:i64 (90*b)=90*b:=e9 (by omega) (by omega);have f:∀T,TrF T->LW ⟨s,T,v7.Rates⟩:=λT hT=>⟨hT,by dsimp only;omega,g4,g5,g6⟩;simp only[e0,e1,e2,qA];refine tD (λ_=>tC (f _ ⟨90*b,by omega,by omega,.inl rfl⟩)) λ_=>tD (λ_=>?_) λ_=>?_;.exact tA (b24 (by simp)) λr hr=>tC (f _ ⟨90*b,by omega,by omega,.inr (.inl hr)⟩)
  .exact tA (b24 (by simp)) λr hr=>tC (f _ ⟨90*b,by omega,by omega,.inr (.inr hr)⟩)
def k5t:a5r k58=some 0:=by kernel_rfl
def k4z{x:Laws}(h:LW x):Tot (c02 x) λr=>r=0:=by
 obtain⟨hT,hl,hs,hx,hr⟩:=h;unfold c02;refine tH x.States (λ(_:Unit)i=>(x,i)) (λ_ _=>True) (by omega) (λrec _ i y hi hy _ ih=>?_) (λrec _ _=>?_) () trivial
 .have e:=hx i y hy;have e1:decide (y.State<0)=false:=by simp;omega
  have e2:decide (y.State>=6)=false:=by simp;omega
  dsimp only;rw[if_pos (o6 hi),e7 hy];simp only[e1,e2,qM,if_false,qA];refine tA (Q:=λb=>b=false) (tA (Q:=λb=>b=false) (tD (λh=>?_) λ_=>tC rfl) λb hb=>tC hb) λb hb=>tD (λh=>by rw[hb]at h;cases h) λ_=>ih () trivial;simp at h;have hp:x.States[i-1]?=some x.States[i-1]:=qG (by omega);have e3:=hx _ _ hp;rw[e9 (by omega) (by omega),show(i:Int)-1=((i-1:Nat):Int)by omega,e7 hp,qA];exact tC (by simp;omega)
 dsimp only;rw[if_neg (g9 _)];refine tH x.States (λ(_:Unit)i=>(x,i)) (λ_ _=>True) (by omega) (λrec _ i y hi hy _ ih=>?_) (λrec _ _=>?_) () trivial;.rw[if_pos (o6 hi),e7 hy,qA];rw[(hs y (qE hy)).2.2,qA];exact tD (λh=>absurd h (by decide)) λ_=>ih () trivial
 rw[if_neg (g9 _),d5j hT,qA];refine tD (λh=>absurd h (by decide)) λ_=>?_;rw[hr,k5t,qA];exact tC rfl
def BO(b:bQ):Prop:=LW b.laws/\b.rules.Members.length<=3
def k5i{x:Laws}(h:LW x){d:Int}(h0:0<=d)(h1:d<=73048):∃b,b8v x d=some (b,0)/\BO b/\b.laws=x:=by
 obtain⟨r,hr,e⟩:=k4z h;subst e;obtain⟨_,_,_,_,hm⟩:=e30 h.1 d;unfold b8v;rw[hr,qA,if_neg (by decide),g2p h.1 h0 h1,qA,if_neg (by simp)];refine⟨_,rfl,⟨h,?_⟩,rfl⟩;obtain⟨m,_,_,e⟩:=h.1;rcases e with e|e|e<;>rw[e]at hm<;>simp at hm;.simp_all
 .grind
 grind
section
variable {b:bQ} (hb:BO b)
def e90(hb:BO b)(s:Int):Tot (a7y b s) λr=>SE r.1/\(r.2=true->0<=s/\s<6):=by
 obtain⟨⟨hT,hl,hs,_⟩,_⟩:=hb;unfold a7y;refine tH b.laws.States (λ(_:Unit)i=>(([]:List Version),(⟨a3j,0,[]⟩:Statute),i)) (λ_ _=>True) (by omega) (λrec _ i y hi hy _ ih=>?_) (λrec _ _=>?_) () trivial;.dsimp only;rw[if_pos (o6 hi),e7 hy,qA];have:=hs y (qE hy);exact tD (λh=>tC ⟨this.2.1,λ_=>by simp at h;omega⟩) λ_=>ih () trivial
 .dsimp only;rw[if_neg (g9 _)];exact tC ⟨(⟨Nat.zero_le _,λ_ h=>by cases h⟩:SE ⟨a3j,0,[]⟩),λh=>by grind⟩
def e3r(hb:BO b)(s:Int):Tot (a2v b s) λr=>VE r.2.1/\(r.2.2=0->0<=s/\s<6):=by refine tA (e90 hb s) λq hq=>tA (g1l hq.1 _) λv hv=>?_;simp only[a1z,qA];exact tD (λ_=>tC ⟨g3t,λh=>by grind⟩) λh=>tC ⟨hv,λ_=>hq.2 (by simp_all)⟩
def d46(hb:BO b)(s:Int):Tot (a08 b s) λ_=>True:=by exact tA (Q:=λ_=>True) (tA (d3e b.rules.Members (λy=>some (s==y)) (λ_=>True) (by have:=hb.2;omega) λy _=>tC λ_=>trivial) λ_ _=>tC trivial) λ_ _=>tC trivial
def CW(b:bQ)(w:Int->Option Bool)(r:List nQ):Prop:=r.length<=2000000/\∀u∈r,(0<=u.Span.From/\u.Span.From<u.Span.To/\u.Span.To<=73049)/\∃s∈b.laws.States,u.State=s.State/\w s.State=some true
def e8z(hb:BO b){f:List aQ}(hG:a48 f)(w:Int->Option Bool)(hw:∀s,Tot (w s) λ_=>True):Tot (lpC (b,([]:List Scheme),(0:Int)) λr4⟨v1,v2,v3⟩=>if decide (v3<(b.laws.States.length:Int))=true then Option.bind (c7 b.laws.States v3) λv5=>Option.bind (w v5.State) λv6=>if v6=true then Option.bind (b1v v5.Statute v1.day) λv7=>Option.bind (a4n 152 v2 [(⟨v5.State,v7.1⟩:Scheme)]) λv8=>r4 (v1,v8,i64 (v3+1))else r4 (v1,v2,i64 (v3+1))else Option.bind (a4h f v1.laws.Treaty) λv9=>Option.bind (a7e f v9 v2 v1.day) λv10=>Option.bind (a71 v10.1) λv11=>some v11) (CW b w):=by
 obtain⟨⟨hT,hl,hs,hx⟩,_⟩:=hb;refine tH b.laws.States (λ(q:List Scheme)i=>(b,q,i)) (λq i=>q.length<=i/\∀x∈q,x.Version.Credits.length<=2^30/\∃s∈b.laws.States,x.State=s.State/\w s.State=some true) (by omega) (λrec q i y hi hy hI ih=>?_) (λrec q hI=>?_) [] ⟨Nat.zero_le _,by simp⟩;.dsimp only;rw[if_pos (o6 hi),e7 hy,qA];obtain⟨v,hv0,_⟩:=hw y.State;rw[hv0,qA];refine tD (λhvt=>tA (g1l (hs y (qE hy)).2.1 _) λv hv=>?_) λ_=>ih q ⟨by omega,hI.2⟩;rw[p6 (by simp only[qR,qS];omega),qA];exact ih _ ⟨by simp;omega,λx hx=>(b4a hx).elim (hI.2 x) λe=>by subst e;have:=hv.vg.1;exact⟨by dsimp only;omega,y,qE hy,rfl,by rw[hv0,hvt]⟩⟩
 .dsimp only;rw[if_neg (g9 _)];have hn:=hG.len;refine tA (f4q hG hT) λg hg=>tA (e4v f g q b.day (by omega) (by omega) (by omega) λx hx=>(hI.2 x hx).1) λc hc=>tA (e1m c.1 ?_) λr hr=>tC ⟨hr.1,λu hu=>?_⟩;rotate_left;.obtain⟨h1,p,hp,e⟩:=hr.2 u hu;obtain⟨x,hx,e2⟩:=hc.2 p hp;obtain⟨s,hs,e3,e4⟩:=(hI.2 x hx).2;exact⟨h1,s,hs,by rw[<-e,e2,e3],e4⟩
  have hcl:=hc.1;have:q.length*(g.length+6*f.length)<=3*(100+6*27):=Nat.mul_le_mul (by omega) (by omega);omega
def k4y(hb:BO b){f:List aQ}(hG:a48 f):Tot (a0s b f b) (CW b (a08 b)):=e8z hb hG (a08 b) (d46 hb)
def e01(hb:BO b){f:List aQ}(hG:a48 f)(s:Int):Tot (a2z b f s) λr=>r.length<=2000000/\(a08 b s=some true->a0s b f b=some r):=by
 obtain⟨m,hm,_⟩:=d46 hb s;obtain⟨c,hc,h⟩:=k4y hb hG;unfold a2z;rw[hm,qA];cases m;.exact tA (Q:=λr:List nQ=>r.length<=2000000) (tA (e8z hb hG (λy=>b1l y s) λ_=>tC trivial) λ_ h=>tC h.1) λ_ h=>tC ⟨h,λe=>by cases e⟩
 .rw[if_pos rfl,hc,qA];exact tC ⟨h.1,λ_=>rfl⟩
def d7m(f:List aQ)(d:Int)(hf:f.length<=1000):Tot (b2v f d) λ_=>True:=by
 refine tH f (λ(s:List Int)i=>(s,i)) (λs i=>s.length<=i) (by omega) (λrec s i y hi hy hI ih=>?_) (λrec s hI=>?_) [] (by simp);.unfold b30;rw[if_pos (o6 hi),e7 hy];simp only[b6f,o4,qA];refine tD (λ_=>?_) λ_=>ih _ (by omega);rw[p6 (by simp only[qR,qS];omega),qA];simp_all
 .unfold b30 b8s;dsimp only;have:(b89 s).length=s.length:=(a8p s).length_eq;rw[if_neg (g9 _),if_pos (by omega),qA,b98 _ (by omega),qA];exact tC trivial
def e2l(hb:BO b){f:List aQ}(hG:a48 f)(c:List nQ)(hc:c.length<=2000000)(s:Int)(t:Bool):Tot (a8k b f c s t) λ_=>True:=by
 have hn:=hG.len;have days:∀(a:Int)(ks:List Int),ks.length<=2^30->Tot (a8q c a ks) λ_=>True:=λa ks h=>f1y c a ks (by omega) h;have j2:∀a1 a2 a3 a4 a5(v:Version)a6 a7 a8,VE v->Tot (a7j (f,c,a1,a2,a3,a4,a5,v,a6,a7,a8)) λ_=>True:=λa1 a2 a3 a4 a5 v a6 a7 a8 hv=>by unfold a7j;have:=hv.vg.2.1;exact tA (days _ _ (by simp)) λ_ _=>tA (days _ _ (by simp)) λ_ _=>tA (days _ _ (by simp)) λ_ _=>tA (days _ _ (by simp)) λ_ _=>tA (days _ _ (by simp)) λ_ _=>tA (days _ _ (by simp)) λ_ _=>tA (e8n f c _ _ _ (by omega) (by omega)) λy hy=>tD (λ_=>tC trivial) λ_=>tA (d70 _ v _ (by omega) (by omega)) λ_ _=>tD (λ_=>tC trivial) λ_=>tA (e74 _) λ_ _=>tD (λ_=>tC trivial) λ_=>tC trivial
 have j1:∀a1 a2 a3 a4 a5 a6(v:Version)a7 a8,VE v->Tot (a85 (f,c,a1,a2,a3,a4,a5,a6,v,a7,a8)) λ_=>True:=λa1 a2 a3 a4 a5 a6 v a7 a8 hv=>by exact tA (c2d _) λ_ _=>tD (λ_=>j2 _ _ _ _ _ v _ _ _ hv) λ_=>j2 _ _ _ _ _ v _ _ _ hv
 refine tA (e3r hb s) λv hv=>tD (λ_=>tC trivial) λ_=>tA (d7m f _ (by omega)) λ_ _=>?_;unfold b4t;rw[d4x f 11 (by omega)];simp only[o4,qA];exact tD (λ_=>tA (g4s _ _) λ_ _=>j1 _ _ _ _ _ _ v.2.1 _ _ hv.1) λ_=>j1 _ _ _ _ _ _ v.2.1 _ _ hv.1
def f0t{v:Version}(hv:VE v)(k:Int)(w:View):Tot (c1k v k w) λr=>r.1.Steps.length<=22:=by exact tA (e7p hv k w) λ_ h=>tD (λ_=>tC (Nat.zero_le _)) λ_=>tA (f2v _ _) λ_ _=>tC h
def ND(b:bQ)(t:Total)(s:Int):Int×Int:=if a08 b s=some true then FrS t s else(0,1)
def k65(hb:BO b){f:List aQ}(hG:a48 f)(s k d:Int){c:List nQ}{t:Total}(hc:a0s b f b=some c)(ht:b41 c b.rules.MinDays=some t):Tot (a8d b ⟨s,k,d,0,false,0,0,0,0,0,0,[]⟩ f) λr=>r.2.Steps.length<=22/\(r.1=0->r.2.Code=0/\(r.2.Num,r.2.Den)=ND b t s):=by
 have j2:∀(a:Award)(v:Version)(c:List nQ),VE v->c.length<=2000000->(a.Steps.length<=22/\a.Code=0/\(a.Num,a.Den)=ND b t s)->Tot (a8c (a,f,b,v,c)) λr=>r.2.Steps.length<=22/\(r.1=0->r.2.Code=0/\(r.2.Num,r.2.Den)=ND b t s):=λa v c hv hc ha=>by exact tD (λ_=>tA (e2l hb hG c hc _ _) λ_ _=>tD (λ_=>tC ⟨ha.1,λ_=>ha.2⟩) λ_=>tA (f0t hv _ _) λ_ hp=>tD (λ_=>tC ⟨ha.1,λ_=>ha.2⟩) λ_=>tA (e9s _ _ _ _) λ_ _=>tD (λ_=>tC ⟨ha.1,λ_=>ha.2⟩) λ_=>tD (λ_=>tC ⟨hp,λ_=>ha.2⟩) λ_=>tC ⟨ha.1,λ_=>ha.2⟩) λ_=>tC ⟨ha.1,λ_=>ha.2⟩
 have j1:∀(a:Award)(v:Version)(c:List nQ)w,VE v->c.length<=2000000->(a.Steps.length<=22/\a.Code=0/\(a.Num,a.Den)=ND b t s)->Tot (a7k (a,f,b,v,c,w)) λr=>r.2.Steps.length<=22/\(r.1=0->r.2.Code=0/\(r.2.Num,r.2.Den)=ND b t s):=λa v c w hv hc ha=>by exact tD (λ_=>tA (f0t hv _ _) λ_ hp=>tD (λ_=>tC ⟨ha.1,λ_=>ha.2⟩) λ_=>j2 _ _ _ hv hc ⟨hp,ha.2⟩) λ_=>j2 _ _ _ hv hc ha
 have no:∀{q:Int}{a:Award},(q !=0)=true->a.Steps=[]->Tot (some (q,a)) λr=>r.2.Steps.length<=22/\(r.1=0->r.2.Code=0/\(r.2.Num,r.2.Den)=ND b t s):=λh e=>tC ⟨by dsimp only;rw[e];exact Nat.zero_le _,λe=>by simp_all⟩;refine tA (e3r hb _) λv hv=>tD (λh=>no h rfl) λh0=>tA (e01 hb hG _) λc' hc'=>tA (e2l hb hG c' hc'.1 _ _) λw _=>tD (λh=>no h rfl) λ_=>?_;have hs:0<=s/\s<6:=hv.2 (by simpa using h0);obtain⟨m,hm,_⟩:=d46 hb s;dsimp only;rw[hm,qA];cases m;.exact j1 ⟨s,k,d,0,false,0,0,0,0,1,0,[]⟩ _ _ _ hv.1 hc'.1 ⟨Nat.zero_le _,rfl,by unfold ND;rw[hm,if_neg (by simp)]⟩
 .have e:=hc'.2 hm;rw[hc]at e;obtain rfl:=qH e;have hi:d0n 6 s=some ():=by unfold d0n;rw[if_pos (by omega)]
  rw[if_pos rfl,ht,qA,hi,qA,k3x t hs.1 hs.2,qA];exact j1 ⟨s,k,d,0,Ar.gt false t.Few s,0,0,0,(FrS t s).1,(FrS t s).2,0,[]⟩ _ _ _ hv.1 hc'.1 ⟨Nat.zero_le _,rfl,by unfold ND;rw[hm,if_pos rfl]⟩
end
def k8i{x:Laws}(h:LW x){f:List aQ}(hG:a48 f)(s k:Int){d:Int}(h0:0<=d)(h1:d<=73048){b:bQ}(ho:b8v x d=some (b,0))(hb:BO b){c:List nQ}{t:Total}(hc:a0s b f b=some c)(ht:b41 c b.rules.MinDays=some t):Tot (b47 x f s k d) λr=>r.Steps.length<=22/\(r.Code=0->(r.Num,r.Den)=ND b t s):=by unfold b47;rw[ho,qA,if_pos (show((0:Int)==0)=true from rfl)];refine tA (k65 hb hG s k d hc ht) λq hq=>tJ ?_;refine tD (λh=>tC ⟨Nat.zero_le _,λe=>?_⟩) λh=>tC ⟨hq.1,λ_=>(hq.2 (by simpa using h)).2⟩;dsimp only at h e;rw[e]at h;cases h
def e44{l:List aQ}(h:l.length<=27)(hp:(l.filter c30).length<=12):a48 (e16 l):=by
 obtain⟨h1,_,h3⟩:=e9u l;refine⟨h1,by omega,?_⟩;have e2:((e16 l).filter c30).length<=((l.filter vld).filter c30).length:=by unfold e16;simpa using d00 (l.filter vld) []
 have e3:((l.filter vld).filter c30).length<=(l.filter c30).length:=by rw[filter_filter,show(λa=>c30 a&&vld a)=λa=>vld a&&c30 a from funext λa=>Bool.and_comm _ _,<-filter_filter];grind
 omega
def f2u(l:List tN)(n:List Int)(b:Bool)(hl:l.length<=9223372036854775807)(hn:n.length<=9223372036854775807):Tot (b0g l n b) a48:=by
 refine tO (I:=λv:List aQ×Int=>0<=v.2/\v.2<=8/\(v.1.length:Int)=v.2) (μ:=λv=>(8-v.2).toNat) ⟨Int.le_refl _,by omega,rfl⟩ (by omega) ?_;rintro r⟨o,k⟩⟨g1,g2,g3⟩ih;unfold b5j;dsimp only at g1 g2 g3⊢;rw[a7h,qA];refine tD (λhc=>?_) λ_=>tD (λ_=>tA (f7m hn) λv hv=>?_) λ_=>?_;.simp at hc;refine tA (c6 g1 hc.1) λf _=>tA (f5k _) λm _=>?_;rw[p6 (by simp only[qR,qS];omega),qA,a42 g1 (by omega)];exact ih _ ⟨by omega,by omega,by simp;omega⟩ (by omega)
 .have hp:=g5h v 1;have hf:=length_filter_le c30 o;have hz:(ofP v 1).filter c30=[]:=by rw[List.filter_eq_nil_iff];intro u hu h;exact hv.2 u (List.mem_filter.1 hu).1 (by simpa[c30]using h)
  rw[g9t v 1 (by omega),qA,p6 (by omega),qA,d8r _ (by rw[qL];omega)];exact tC (e44 (by rw[qL];omega) (by rw[filter_append,hz,List.append_nil];omega))
 .have hf:=length_filter_le c30 o;rw[d8r _ (by omega)];exact tC (e44 (by omega) (by omega))
def g9s{x:Laws}(h:LW x){f:List aQ}(hG:a48 f)(k d:Int)(P:State->Award->Prop)(hP:∀s∈x.States,Tot (b47 x f s.State k d) (P s)):Tot (c4q x f k d) λr=>r.length=x.States.length/\∀(i:Nat)(s:State),x.States[i]?=some s->∃a,r[i]?=some a/\P s a:=by
 have hl:=h.2.1;unfold c4q;refine tH x.States (λ(o:List Award)i=>(x,o,i)) (λo i=>o.length=i/\∀(j:Nat)(s:State),j<i->x.States[j]?=some s->∃a,o[j]?=some a/\P s a) (by omega) (λrec o i y hi hy hI ih=>?_) (λrec o hI=>?_) [] ⟨rfl,λj s hj=>by omega⟩
 .dsimp only;rw[if_pos (o6 hi),e7 hy,qA];obtain⟨a,ha,hs⟩:=hP y (qE hy);rw[ha,qA,p6 (by simp only[qR,qS];omega),qA];refine ih _ ⟨by simp[hI.1],λj s hj e=>?_⟩;by_cases hj2:j<i;.obtain⟨b,hb,h2⟩:=hI.2 j s hj2 e;exact⟨b,by rw[List.getElem?_append_left (by omega)];omega,h2⟩
  .have:j=i:=by omega
   subst this;rw[hy]at e;cases e;exact⟨a,by rw[List.getElem?_append_right (by omega),hI.1];simp,hs⟩
 .dsimp only;rw[if_neg (g9 _)];exact tC ⟨hI.1,λi s e=>hI.2 i s (by grind) e⟩
def k8c{x:Int}(h0:0<=x)(h1:x<18446744073709551616):d5y .u64 x 4294967295=x%4294967296:=by
 unfold d5y;have e1:(BitVec.ofInt IntKind.u64.bits x&&&BitVec.ofInt IntKind.u64.bits 4294967295).toNat=x.toNat%4294967296:=by show(x%18446744073709551616).toNat&&&(4294967295%18446744073709551616:Int).toNat=_;rw[Int.emod_eq_of_lt h0 h1];exact Nat.and_two_pow_sub_one_eq_mod x.toNat 32
 show u64 _=_;rw[b83 (by omega) (by omega)];omega
section
variable {U W y1 y0 q r:Int} (hW:0 <= W /\ W<4294967296) (hy:2147483648 <= y1 /\ y1<4294967296) (h0:0 <= y0 /\ y0<4294967296) (hU:0 <= U /\ U<y1*4294967296+y0)
include hW hy h0 hU
end
def k5m{x y:Int}(hx0:0<=x)(hx1:x<18446744073709551616)(hy0:0<=y)(hy1:y<18446744073709551616):b3s x y=some (x*y/18446744073709551616,x*y%18446744073709551616):=by
 unfold b3s;simp only[c5u (show(0:Int)<=32by decide),qA];rw[h3z hx0,h3z hy0,k8c hx0 hx1,k8c hy0 hy1];obtain⟨x1,x0,hxe,hx2,hx3,hx4,hx5⟩:∃x1 x0:Int,x=x1*4294967296+x0/\0<=x1/\x1<=4294967295/\0<=x0/\x0<=4294967295:=⟨x/4294967296,x%4294967296,by omega,by omega,by omega,by omega,by omega⟩;obtain⟨y1,y0,hye,hy2,hy3,hy4,hy5⟩:∃y1 y0:Int,y=y1*4294967296+y0/\0<=y1/\y1<=4294967295/\0<=y0/\y0<=4294967295:=⟨y/4294967296,y%4294967296,by omega,by omega,by omega,by omega,by omega⟩;have ex1:x/4294967296=x1:=by omega
 have ex0:x%4294967296=x0:=by omega
 have ey1:y/4294967296=y1:=by omega
 have ey0:y%4294967296=y0:=by omega
 rw[ex1,ex0,ey1,ey0];have bound:∀p q:Int,0<=p->p<=4294967295->0<=q->q<=4294967295->0<=p*q/\p*q<=18446744065119617025:=by intro p q h1 h2 h3 h4;exact⟨Int.mul_nonneg h1 h3,Int.le_trans (Int.mul_le_mul h2 h4 h3 (by decide)) (by decide)⟩
 have hxy:x*y=x1*y1*18446744073709551616+(x1*y0+x0*y1)*4294967296+x0*y0:=by
  rw[hxe,hye,Int.add_mul,Int.mul_add,Int.mul_add];have e1:x1*4294967296*(y1*4294967296)=x1*y1*18446744073709551616:=by rw[Int.mul_assoc,Int.mul_left_comm 4294967296 y1,<-Int.mul_assoc];rfl
  have e2:x1*4294967296*y0=x1*y0*4294967296:=by rw[Int.mul_assoc,Int.mul_comm 4294967296 y0,<-Int.mul_assoc]
  have e3:x0*(y1*4294967296)=x0*y1*4294967296:=by rw[<-Int.mul_assoc]
  omega
 have b1:=bound x0 y0 hx4 hx5 hy4 hy5;have b2:=bound x1 y0 hx2 hx3 hy4 hy5;have b3:=bound x0 y1 hx4 hx5 hy2 hy3;have b4:=bound x1 y1 hx2 hx3 hy2 hy3;generalize x0*y0=a at*;generalize x1*y0=b at*;generalize x0*y1=c at*;generalize x1*y1=d at*;rw[b83 (n:=a) (by omega) (by omega),h3z b1.1,b83 (n:=b) (by omega) (by omega)];rw[b83 (n:=b+a/4294967296) (by omega) (by omega),h3z (by omega),k8c (by omega) (by omega),b83 (n:=c) (by omega) (by omega)];rw[b83 (n:=(b+a/4294967296)%4294967296+c) (by omega) (by omega),h3z (by omega),b83 (n:=d) (by omega) (by omega)];rw[b83 (n:=d+(b+a/4294967296)/4294967296) (by omega) (by omega)];rw[b83 (n:=d+(b+a/4294967296)/4294967296+((b+a/4294967296)%4294967296+c)/4294967296) (by omega) (by omega),g2l];congr 1;refine Prod.ext ?_ rfl;omega
section
variable {r:Rounding} (hu:1 <= r.Unit /\ r.Unit <= 100000)
include hu
end
def k70{a b:Nat}(hb:b≠0):((b:Int)!=0)=true/\b8t (a:Int) (b:Int)=some ((a%b:Nat):Int):=by refine⟨by simpa using hb,?_⟩;rw[d04 (by exact_mod_cast hb),Int.tmod_eq_emod_of_nonneg (Int.natCast_nonneg a)];rfl
def k5e(a b:Nat)(h:b<2^64):a9s a b=some (Nat.gcd a b:Int):=by
 obtain⟨r,h1,h2⟩:Tot (a9s a b) λr=>r=(Nat.gcd a b:Int):=by
  refine tO (I:=λs:Int×Int=>∃x y:Nat,s=((x:Int),(y:Int))/\Nat.gcd x y=Nat.gcd a b) (μ:=λs=>s.2.toNat) ⟨a,b,rfl,rfl⟩ (by dsimp only;omega) ?_;rintro r s⟨x,y,rfl,hg⟩ih;unfold b7e;dsimp only;by_cases h0:y=0;.subst h0;rw[if_neg (by simp)];exact tC (by rw[<-hg];simp)
  .obtain⟨e1,e2⟩:=k70 (a:=x) h0;rw[if_pos e1,e2,qA];refine ih _ ⟨y,x%y,rfl,?_⟩ ?_;.rw[<-hg,Nat.gcd_comm x y,Nat.gcd_rec y x,Nat.gcd_comm]
   .have:=Nat.mod_lt x (Nat.pos_of_ne_zero h0);simp only[Int.toNat_natCast];exact this
 rw[h1,h2]
def divN{n d:Nat}(hn:n<2^63):u64 (Int.tdiv (n:Int) (d:Int))=((n/d:Nat):Int):=by have h:=Nat.div_le_self n d;rw[Int.tdiv_eq_ediv_of_nonneg (Int.natCast_nonneg n),show(n:Int)/(d:Int)=((n/d:Nat):Int)from rfl];generalize n/d=q at h⊢;exact b83 (by omega) (by omega)
def k5b{n d:Nat}(hd:0<d)(hd1:d<2^63)(hn:n<2^63):a3h ⟨0,n⟩ d=some (⟨0,(n/d:Nat)⟩,((n%d:Nat):Int)):=by
 have h0:(d:Int)≠0:=by omega
 have hd':d≠0:=by omega
 unfold a3h;have e1:b8t 0 (d:Int)=some 0:=by rw[d04 h0];simp
 have e2:a8o 0 (n:Int) (d:Int)=some (((n/d:Nat):Int),((n%d:Nat):Int)):=by unfold a8o joinC b9j joinC b9t;rw[if_neg (by simpa using hd'),if_neg (by simp;omega),if_pos (by simp)];simp only[if_neg h0,qA];simp only[divN hn,(k70 (a:=n) hd').2,qA]
 simp only[e1,e2,qA,if_neg h0];have e3:u64 (Int.tdiv 0 (d:Int))=0:=by simp;rfl
 rw[e3]
def k41{n d:Nat}(hd:0<d)(hd1:d<2^63)(hn:n<2^63)(h1:n/Nat.gcd n d<=1000000000000000)(h2:d/Nat.gcd n d<=1000000000):b2l false ⟨0,n⟩ d=some (⟨(n/Nat.gcd n d:Nat),(d/Nat.gcd n d:Nat)⟩,0):=by
 have hg:Nat.gcd d (n%d)=Nat.gcd n d:=by rw[Nat.gcd_comm n d,Nat.gcd_rec d n,Nat.gcd_comm]
 have hp:0<Nat.gcd n d:=Nat.gcd_pos_of_pos_right _ hd;have hl:Nat.gcd n d<=d:=Nat.gcd_le_right _ hd;unfold b2l;rw[k5b hd hd1 hn,qA,k5e d (n%d) (by have:=Nat.mod_lt n hd;omega),hg,qA,k5b hp (by omega) hn,qA,if_neg (by omega),qA];rw[divN hd1];generalize n/Nat.gcd n d=a at*;generalize d/Nat.gcd n d=b at*;have c1:decide ((a:Int)>1000000000000000)=false:=by simp;omega
 have c2:decide ((b:Int)>1000000000)=false:=by simp;omega
 simp only[c1,c2,bne_self_eq_false,qM,if_false,qA];rw[e9 (by omega) (by omega),e9 (by omega) (by omega)]
def k8u(f:fQ)(k B:Nat):Prop:=∃a b:Nat,f=⟨(a:Int),(b:Int)⟩/\0<b/\b<=B/\a<=b/\Nat.gcd a b=1/\a*B=k*b
def red{n d k B:Nat}(hd:0<d)(hB:0<B)(hk:k<=B)(h:n*B=k*d):k8u ⟨(n/Nat.gcd n d:Nat),(d/Nat.gcd n d:Nat)⟩ k B:=by
 have hp:0<Nat.gcd n d:=Nat.gcd_pos_of_pos_right _ hd;obtain⟨a,ha⟩:=Nat.gcd_dvd_left n d;obtain⟨b,hb⟩:=Nat.gcd_dvd_right n d;have e1:n/Nat.gcd n d=a:=Nat.div_eq_of_eq_mul_right hp ha;have e2:d/Nat.gcd n d=b:=Nat.div_eq_of_eq_mul_right hp hb;have hc:Nat.gcd a b=1:=by rw[<-e1,<-e2];exact Nat.gcd_div_gcd_div_gcd_of_pos_right hd
 have hb0:0<b:=Nat.pos_of_ne_zero λe=>by rw[e]at hb;omega
 have hv:a*B=k*b:=by
  generalize Nat.gcd n d=g at*;subst ha hb;have:g*(a*B)=g*(k*b):=by rw[<-Nat.mul_assoc,h];grind
  exact Nat.eq_of_mul_eq_mul_left hp this
 have hdv:b∣B:=Nat.Coprime.dvd_of_dvd_mul_left (Nat.Coprime.symm hc) ⟨k,by rw[hv];exact Nat.mul_comm _ _⟩;refine⟨a,b,by rw[e1,e2],hb0,Nat.le_of_dvd hB hdv,?_,hc,hv⟩;have:a*B<=b*B:=by rw[hv,Nat.mul_comm b B];exact Nat.mul_le_mul_right _ hk
 exact Nat.le_of_mul_le_mul_right this hB
def k5a{n:Nat}(h:n<2^62):a43 (n:Int)=some (n:Int):=by unfold a43;rw[if_neg (by simp),b83 (by omega) (by omega)]
def k5o{n d k B:Nat}(hd:0<d)(hd1:d<=1000000)(hn:n<=1000000)(hB:0<B)(hB1:B<=1000000)(hk:k<=B)(h:n*B=k*d):∃f,a3r n d=some (f,0)/\k8u f k B:=by
 have hr:=red hd hB hk h;have h1:=Nat.div_le_self n (Nat.gcd n d);have h2:=Nat.div_le_self d (Nat.gcd n d);refine⟨_,?_,hr⟩;unfold a3r;have e:((decide ((n:Int)<0))!=(decide ((d:Int)<0)))=false:=by rw[decide_eq_false (by omega),decide_eq_false (by omega)];rfl
 rw[if_neg (by simp;omega),k5a (by omega),qA,k5a (by omega),qA,e,k41 hd (by omega) (by omega) (by omega) (by omega),qA]
def k3v{a b:Nat}(hb:0<b)(hb1:b<=1000000)(ha:a<=1000000)(hc:Nat.gcd a b=1):a1h ⟨(a:Int),(b:Int)⟩=some true:=by have c1:decide ((b:Int)>=1)=true:=decide_eq_true (by omega);have c2:decide ((b:Int)<=1000000000)=true:=decide_eq_true (by omega);have c3:decide ((a:Int)>=-1000000000000000)=true:=decide_eq_true (by omega);have c4:decide ((a:Int)<=1000000000000000)=true:=decide_eq_true (by omega);unfold a1h;simp only[c1,c2,c3,c4,if_true,qA,k5a (show a<2^62by omega),b83 (n:=(b:Int)) (by omega) (by omega),k5e a b (by omega),hc];try rfl
def k87{x y:Nat}(hx:x<=1000000)(hy:y<=1000000):k2g x y=some ⟨0,((x*y:Nat):Int)⟩:=by have h:=Nat.mul_le_mul hx hy;unfold k2g;rw[k5m (by omega) (by omega) (by omega) (by omega),qA,<-Int.natCast_mul];congr 2<;>omega
def k8q{f g:fQ}{k l B:Nat}(hB:0<B)(hB1:B<=1000000)(hf:k8u f k B)(hg:k8u g l B)(hk:k+l<=B):∃r,k2d f g=some (r,0)/\k8u r (k+l) B:=by
 obtain⟨a,b,rfl,a1,a2,a3,a4,a5⟩:=hf;obtain⟨c,d,rfl,b1,b2,b3,b4,b5⟩:=hg;have m1:a*d<=1000000*1000000:=Nat.mul_le_mul (by omega) (by omega);have m2:c*b<=1000000*1000000:=Nat.mul_le_mul (by omega) (by omega);have m3:b*d<=1000000*1000000:=Nat.mul_le_mul (by omega) (by omega);have m4:0<b*d:=Nat.mul_pos a1 b1;have hr:=red (n:=a*d+c*b) (d:=b*d) m4 hB hk (by
  have:(a*d+c*b)*B=(a*B)*d+(c*B)*b:=by grind
  rw[this,a5,b5];grind);obtain⟨p,q,e,p1,p2,p3,_⟩:=id hr;have e1:(a*d+c*b)/Nat.gcd (a*d+c*b) (b*d)=p:=Int.natCast_inj.1 (congrArg fQ.Num e);have e2:(b*d)/Nat.gcd (a*d+c*b) (b*d)=q:=Int.natCast_inj.1 (congrArg fQ.Den e);refine⟨_,?_,hr⟩;unfold k2d;rw[k3v a1 (by omega) (by omega) a4,qA];simp only[qU,qM,if_false,k3v b1 (show d<=1000000by omega) (show c<=1000000by omega) b4,qA];have s1:decide ((a:Int)<0)=false:=by simp
 have s2:decide ((c:Int)<0)=false:=by simp
 simp only[k5a (show a<2^62by omega),k5a (show c<2^62by omega),b83 (n:=(b:Int)) (by omega) (by omega),b83 (n:=(d:Int)) (by omega) (by omega),qA,k87 (show a<=1000000by omega) (show d<=1000000by omega),k87 (show c<=1000000by omega) (show b<=1000000by omega),s1,s2,BEq.rfl,if_true];have e3:k2f ⟨0,((a*d:Nat):Int)⟩ ⟨0,((c*b:Nat):Int)⟩=some ⟨0,((a*d+c*b:Nat):Int)⟩:=by
  unfold k2f c23 g7y;dsimp only;rw[if_pos (by omega),qA];have g1:(((a*d:Nat):Int)+((c*b:Nat):Int)+0)%18446744073709551616=((a*d+c*b:Nat):Int):=by omega
  have g2:(((a*d:Nat):Int)+((c*b:Nat):Int)+0)/18446744073709551616=0:=by omega
  rw[g1,g2];rfl
 have e4:u64 ((b:Int)*(d:Int))=((b*d:Nat):Int):=by rw[<-Int.natCast_mul,b83 (by omega) (by omega)]
 rw[e3,qA,e4,k41 m4 (by omega) (by omega) (by rw[e1];omega) (by rw[e2];omega),qA]
def aF:List aQ:=[(⟨0,1,1,false,1,1,0,(⟨30000,30010⟩:Span),0,100,1,500,0⟩:aQ)]
def aT:List Rules:=[(⟨0,0,0,0,[0]⟩:Rules)]
def aV:Version:=⟨0,(⟨1,1⟩:Rounding),[],[],[],[(⟨1,(⟨16,(⟨0,0⟩:fQ),0,a3j,[(⟨2,(⟨0,0⟩:fQ),0,b6u,[]⟩:Expr),(⟨1,(⟨5,1⟩:fQ),3,a3j,[]⟩:Expr)]⟩:Expr),(⟨1,(⟨77,1⟩:fQ),4,a3j,[]⟩:Expr)⟩:Grant)],[]⟩
def aB:bQ:=⟨⟨[⟨0,⟨c91,1,[aV]⟩⟩],aT,[]⟩,31000,⟨0,0,0,0,[0]⟩⟩
def aP:competence_Postings aF=some []:=by have hv:∀u∈aF,vld u=true:=List.forall_mem_singleton.2 (by kernel_rfl);obtain⟨P,hP,hm,_⟩:=c90 (⟨hv,by decide,by decide⟩:a48 aF);rw[hP];cases P with|nil=>rfl|cons p P=>
   have e:f3b aF p.Seat p.State=[]:=by kernel_rfl
   have h1:p.Span∈d4o (f3b aF p.Seat p.State) (a4q aF):=(hm p).1 (by simp);rw[e,List.length_eq_zero_iff.1 (Nat.le_zero.1 (b8o [] (a4q aF) (by decide)).2.2.2)]at h1;grind
def aLaw:a4h aF aT=some [(⟨(⟨30000,30010⟩:Span),0,3⟩:gQ)]:=by unfold a4h a9c;rw[aP];kernel_rfl
def aCn:List nQ:=[(⟨(⟨30000,30010⟩:Span),0,1⟩:nQ)]
def aCnt:a2z aB aF 0=some aCn:=by unfold a2z a0s lpC;rw[show a08 aB 0=some true from by kernel_rfl,qA,if_pos rfl,show FU=1180591620717411303422+1+1from rfl,d24];dsimp only;rw[if_pos (by decide),show c7 aB.laws.States 0=some ⟨0,⟨c91,1,[aV]⟩⟩from rfl,qA];rw[show a08 aB 0=some true from by kernel_rfl,qA,if_pos rfl,show b1v ⟨c91,1,[aV]⟩ aB.day=some (aV,true)from by kernel_rfl,qA,p6 (by decide),qA,d24];rw[if_neg (by decide),show aB.laws.Treaty=aT from rfl,aLaw,qA];kernel_rfl
def e4y:b2m=some true:=by show Option.bind (b47 aB.laws aF 0 1 31000) _=_;unfold b47;rw[show b8v aB.laws 31000=some (aB,0)from by kernel_rfl,qA,if_pos (by decide)];unfold a8d;rw[show a2v aB 0=some (⟨c91,1,[aV]⟩,aV,0)from by kernel_rfl,qA,if_neg (by decide),aCnt];kernel_rfl
def i6k(a:Int){n:Int}(h0:1<=n)(h1:n<=1000000):Tot (a40 a n) λr=>0<=r/\r<n:=by have h2:=Int.tmod_lt_of_pos a h0;have h3:-n<a.tmod n:=Int.lt_tmod_of_pos a h0;refine tD (λh=>by simp at h;omega) λ_=>?_;rw[d04 (by omega),qA,e9 (by omega) (by omega),d04 (by omega),qA];have h4:=Int.tmod_lt_of_pos (a.tmod n+n) h0;have h5:=Int.tmod_nonneg n (show 0<=a.tmod n+n by omega);exact tC ⟨h5,h4⟩
def k8z{b:bQ}(h:LW b.laws){w:Int->Option Bool}{c:List nQ}(hc:CW b w c):CO c:=by refine⟨hc.1,λu hu=>?_⟩;obtain⟨h1,s,hs,e,_⟩:=hc.2 u hu;obtain⟨i,hi⟩:=mem_iff_getElem?.1 hs;have hl:=(qD.1 hi).1;have h2:=h.2.2.2.1 i s hi;have h3:=h.2.1;exact⟨h1,by omega,by omega⟩
def k4l{b:bQ}(h:LW b.laws){c:List nQ}(hc:CW b (a08 b) c){t:Total}{la:Int}(hT:TO c t la 6):∃(B:Nat)(k:Nat->Nat),(0<B/\B<=1000000)/\(∀j:Nat,j<3->∃n d:Nat,ND b t j=((n:Int),(d:Int))/\0<d/\d<=1000000/\n<=1000000/\n*B=k j*d)/\k 0+k 1+k 2=if c=[]then 0 else B:=by
 have hco:=k8z h hc;have nm:∀j:Nat,j<6->a08 b j≠some true->own t j=0:=λj hj hm=>(hT.o j hj).2.1.2 λu hu e=>by obtain⟨_,s,hs,e2,e3⟩:=hc.2 u hu;rw[<-e2,e]at e3;exact hm e3
 have hi:∀j:Nat,3<=j->j<6->own t j=0:=λj h3 hj=>(hT.o j hj).2.1.2 λu hu e=>by have:=(hco.2 u hu).2;omega
 have o0:=hT.o 0 (by omega);have o1:=hT.o 1 (by omega);have o2:=hT.o 2 (by omega);have o3:=hi 3 (by omega) (by omega);have o4:=hi 4 (by omega) (by omega);have o5:=hi 5 (by omega) (by omega);have hs:=hT.s;have hb:=hT.b;simp only[k53,k2x]at hs hb;simp only[show((3:Nat):Int)=3from rfl,show((4:Nat):Int)=4from rfl,show((5:Nat):Int)=5from rfl,show((0:Nat):Int)=0from rfl,show((1:Nat):Int)=1from rfl,show((2:Nat):Int)=2from rfl]at hs hb o0 o1 o2 o3 o4 o5;have p3:∀q:Prop,[Decidable q]->(if q then(0:Int)else own t 3)=0:=λq _=>by rw[o3];simp
 have p4:∀q:Prop,[Decidable q]->(if q then(0:Int)else own t 4)=0:=λq _=>by rw[o4];simp
 have p5:∀q:Prop,[Decidable q]->(if q then(0:Int)else own t 5)=0:=λq _=>by rw[o5];simp
 rw[p3,p4,p5]at hb;have pr:∀j:Nat,j<3->0<=k2x t j/\k2x t j<=73049:=λj hj=>by have:=(hT.o j (by omega)).1;unfold k2x;split<;>omega
 have e0:c=[]->own t 0=0/\own t 1=0/\own t 2=0:=λe=>by subst e;exact⟨o0.2.1.2 (by simp),o1.2.1.2 (by simp),o2.2.1.2 (by simp)⟩
 by_cases hB:0<t.Base
 .refine⟨t.Base.toNat,λj=>(k2x t j).toNat,⟨by omega,?_⟩,λj hj=>?_,?_⟩;.have:=pr 0 (by omega);have:=pr 1 (by omega);have:=pr 2 (by omega);unfold k2x at*;simp only[show((0:Nat):Int)=0from rfl,show((1:Nat):Int)=1from rfl,show((2:Nat):Int)=2from rfl]at*;omega
  .have hj2:=hT.o j (by omega);have hp:=pr j hj;by_cases hf:a08 b j=some true/\fwO t j=false/\0<own t j
   .obtain⟨f1,f2,f3⟩:=hf;refine⟨(own t j).toNat,t.Base.toNat,?_,by omega,?_,by omega,?_⟩;.unfold ND FrS;rw[if_pos f1,if_pos ⟨f2,f3,hB⟩,Int.toNat_of_nonneg (by omega),Int.toNat_of_nonneg (by omega)]
    .have:=pr 0 (by omega);have:=pr 1 (by omega);have:=pr 2 (by omega);unfold k2x at*;simp only[show((0:Nat):Int)=0from rfl,show((1:Nat):Int)=1from rfl,show((2:Nat):Int)=2from rfl]at*;omega
    .dsimp only;unfold k2x;rw[if_neg (by simp[f2])]
   .refine⟨0,1,?_,by omega,by omega,by omega,?_⟩
    .unfold ND FrS;split;.rename_i hm;rw[if_neg (λg=>hf ⟨hm,g.1,g.2.1⟩),if_neg (λg=>by omega)];rfl
     .rfl
    .have:k2x t j=0:=by
      unfold k2x;split;.rfl
      .rename_i hq;by_cases hm:a08 b j=some true;.have:¬0<own t j:=λg=>hf ⟨hm,by simpa using hq,g⟩;omega
       .exact nm j (by omega) hm
     dsimp only;rw[this];simp
  .have q0:=pr 0 (by omega);have q1:=pr 1 (by omega);have q2:=pr 2 (by omega);have hne:c≠[]:=λe=>by obtain⟨a1,a2,a3⟩:=e0 e;rw[a1,a2,a3]at hb;simp at hb;omega
   rw[if_neg hne];unfold k2x at*;simp only[show((0:Nat):Int)=0from rfl,show((1:Nat):Int)=1from rfl,show((2:Nat):Int)=2from rfl]at*;omega
 .have hB0:t.Base=0:=by have:=pr 0 (by omega);have:=pr 1 (by omega);have:=pr 2 (by omega);unfold k2x at*;simp only[show((0:Nat):Int)=0from rfl,show((1:Nat):Int)=1from rfl,show((2:Nat):Int)=2from rfl]at*;omega
  refine⟨1,λj=>if 0<t.Sum/\(j:Int)=t.Last then 1 else 0,⟨by omega,by omega⟩,λj hj=>?_,?_⟩
  .by_cases hl:0<t.Sum/\(j:Int)=t.Last
   .have hm:a08 b j=some true:=by
     refine Decidable.byContradiction λhm=>?_;have h0:=nm j (by omega) hm;rcases hT.l with⟨_,_,l3⟩|⟨_,q,_,l3,l4⟩;.have:=l3 0 (by omega);have:=l3 1 (by omega);have:=l3 2 (by omega);simp only[show((0:Nat):Int)=0from rfl,show((1:Nat):Int)=1from rfl,show((2:Nat):Int)=2from rfl]at*;omega
     .rw[hl.2,l3]at h0;omega
    refine⟨1,1,?_,by omega,by omega,by omega,by dsimp only;rw[if_pos hl]⟩;unfold ND FrS;rw[if_pos hm,if_neg (λg=>hB g.2.2),if_pos ⟨hB0,hl⟩];rfl
   .refine⟨0,1,?_,by omega,by omega,by omega,by dsimp only;rw[if_neg hl]⟩;unfold ND FrS;split;.rw[if_neg (λg=>hB g.2.2),if_neg (λg=>hl g.2)];rfl
    .rfl
  .by_cases hne:c=[]
   .obtain⟨a1,a2,a3⟩:=e0 hne;have:¬0<t.Sum:=by omega
    simp only[this,false_and,if_false,hne,if_true]
   .obtain⟨u,hu⟩:=exists_mem_of_ne_nil c hne;have hu2:=(hco.2 u hu).2;rw[if_neg hne];rcases hT.l with⟨_,_,l3⟩|⟨_,q,q6,l3,l4⟩;.obtain⟨j,hj⟩:=qT hu2.1;have:=(hT.o j (by omega)).2.1.1 (l3 j (by omega)) u hu;omega
    .have hq3:q<3:=by refine Decidable.byContradiction λg=>?_;have:=hi q (by omega) q6;omega
     have hsum:0<t.Sum:=by
      have:q=0\/q=1\/q=2:=by omega
      rcases this with rfl|rfl|rfl<;>simp only[show((0:Nat):Int)=0from rfl,show((1:Nat):Int)=1from rfl,show((2:Nat):Int)=2from rfl]at l4<;>omega
     rw[l3];simp only[hsum,true_and];have:q=0\/q=1\/q=2:=by omega
     rcases this with rfl|rfl|rfl<;>rfl
def k30(l:List tN)(n:List Int)(lives:Bool)(at_:Int)(hl:l.length<=9223372036854775807)(_:n.length<=9223372036854775807):k2h l n lives at_=some true:=by
 obtain⟨r,hr,h⟩:Tot (k2h l n lives at_) λr=>r=true:=by
  refine tD (λ_=>tC rfl) λhn=>?_;refine tA (Q:=LW) ?_ λx hx=>tA (f2u l n lives hl (by omega)) λf hG=>tA (i6k _ (by omega) (by omega)) λv hv=>?_;.exact tA (g3f (by omega)) λx hx=>tC hx
  rw[e9 (n:=33000+v) (by omega) (by omega)];obtain⟨b,ho,hb,rfl⟩:=k5i hx (d:=33000+v) (by omega) (by omega);obtain⟨c,hc,hcw⟩:=k4y hb hG;obtain⟨t,ht,la,hT⟩:=k4r (k8z hx hcw) b.rules.MinDays;have e1:k2k b.laws f (33000+v)=some (c,0):=by unfold k2k;rw[ho,qA,if_neg (by simp),hc];rfl
  obtain⟨p,hp,hpl,hps⟩:=g9s hx hG 1 (33000+v) (λs a=>a.Code=0->(a.Num,a.Den)=ND b t s.State) λs _=>(k8i hx hG s.State 1 (by omega) (by omega) ho hb hc ht).mono λa ha=>ha.2;rw[e1,qA,e4y,qA];simp only[qU,qM,if_false,bne_self_eq_false,qA,hp];obtain⟨B,k,hB,hk,hsum⟩:=k4l hx hcw hT;have h3:=hx.2.1;have hkB:∀i,i<=3->((List.range i).map k).sum<=B:=λi hi=>by
   have:i=0\/i=1\/i=2\/i=3:=by omega
   have hle:k 0+k 1+k 2<=B:=by rw[hsum];split<;>omega
   rcases this with rfl|rfl|rfl|rfl<;>simp[range_succ]<;>omega
  refine tH p (λ(s:fQ)i=>(c,p,s,i)) (λs i=>k8u s ((List.range i).map k).sum B) (by omega) (λrec s i y hi hy hI ih=>?_) (λrec s hI=>?_) (⟨0,1⟩:fQ) ⟨0,1,rfl,by omega,by omega,by omega,by rfl,by simp⟩
  .unfold k2e;rw[if_pos (o6 hi)];simp only[e7 hy,qA];refine tD (λ_=>tC rfl) λh0=>?_;have hs:b.laws.States[i]?=some b.laws.States[i]:=qG (by omega);obtain⟨a,ha,hq⟩:=hps i _ hs;rw[hy]at ha;cases ha;have hq:=hq (by simpa using h0);rw[hx.2.2.2.1 i _ hs]at hq;obtain⟨n1,d1,e2,d2,d3,d4,d5⟩:=hk i (by omega);rw[e2]at hq;have e3:=congrArg Prod.fst hq;have e4:=congrArg Prod.snd hq;dsimp only at e3 e4;have hsucc:((List.range (i+1)).map k).sum=((List.range i).map k).sum+k i:=by simp[range_succ]
   have hle:=hkB (i+1) (by omega);obtain⟨g,hg,hg2⟩:=k5o d2 d3 d4 hB.1 hB.2 (by omega) d5;obtain⟨z,hz,hz2⟩:=k8q hB.1 hB.2 hI hg2 (by omega);rw[e3,e4,hg,qA,if_neg (by simp),hz,qA];exact ih z (by rw[hsucc];exact hz2)
  .unfold k2e;rw[if_neg (g9 _)];have hK:((List.range p.length).map k).sum=k 0+k 1+k 2:=by rw[show p.length=3by omega];simp[range_succ];omega
   rw[hK,hsum]at hI;obtain⟨a,d,rfl,d0,d1,d2,d3,d4⟩:=hI;refine tD (λh=>?_) λh=>?_
   .have:c=[]:=List.length_eq_zero_iff.1 (by simpa using h);rw[if_pos this]at d4;have:a=0:=by
     rcases Nat.eq_zero_or_pos a with e|e;.exact e
     .have:=Nat.mul_pos e hB.1;omega
    subst this;exact tC rfl
   .have:c≠[]:=λe=>h (by rw[e];rfl);rw[if_neg this,Nat.mul_comm B d]at d4;have e:=Nat.eq_of_mul_eq_mul_right hB.1 d4;subst e;rw[Nat.gcd_self]at d3;subst d3;exact tC rfl
 simp_all
end Go.PL
