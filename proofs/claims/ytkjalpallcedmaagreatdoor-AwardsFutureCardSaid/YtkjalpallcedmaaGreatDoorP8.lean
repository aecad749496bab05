/- Texts of the proof, joined. -/
import Derived.Test.YtkjalpallcedmaaGreatDoorP7
import Derived.KernelRfl
set_option linter.defProp false
set_option linter.unusedVariables false
set_option linter.unusedSimpArgs false
set_option maxRecDepth 100000
open List
namespace Go.PL
open Go Go.SX
def d5e(l:List Int):Tot (a9p l) λb=>b=true->l.length<=200:=by
 refine tA  (tD (λh=>?_) λ_=>tC λh=>by grind) λb a=>tC a;simp at h;refine tA (c12 l b0a (λ_=>True) (by omega) λy _=>?_) λ_ _=>tC λ_=>by omega
 unfold b0a;rw[a1z];exact tC λ_=>trivial
def c58(w:View):Tot (b0s w) λ_=>True:=by
 unfold b0s;simp only[a1z,y3,o4,qA];refine tA (orT (e4o (d5e _))) λ_ _=>tD (λ_=>tC trivial) λ_=>?_;refine tO (I:=λv=>v.1=w/\0<=v.2) (μ:=λv=>(7-v.2).toNat) ⟨rfl,Int.le_refl _⟩ (by omega) ?_;rintro r⟨v,k⟩⟨j,c⟩g;subst j;refine tD (λh=>?_) λ_=>tA (b2t _) λa f=>?_;.simp at h;rw[a42 c (by omega)];exact tA (c6 c h) λ_ _=>tD (λ_=>tC trivial) λ_=>g _ ⟨rfl,by omega⟩ (by omega)
 .have d:∀b,(a&&b)=true->v.Base.Den≠0:=λb h=>by
   have:a=true:=by grind
   exact(f this).i.2.2
  refine tA (Q:=λb=>b=true->v.Base.Den≠0) (tD (λh=>tA (b7s (d _ h)) λ_ _=>tC λ_=>d _ h) λ_=>tC λh=>by grind) λb e=>tA  (tD (λh=>tA (b7s (e h)) λ_ _=>tA (Q:=λ_=>True) (tD (λ_=>tC trivial) λ_=>tA (b4f (e h)) λ_ _=>tC trivial) λ_ _=>tC trivial) λ_=>tC trivial) λ_ _=>tC trivial
def g3i(w:View)(s:ByteArray):Tot (c2b w s) λ_=>True:=by refine tA (c5e s) λ_ _=>tA (orT (e4o (c58 w))) λ_ _=>?_;repeat' first|exact tC trivial|refine tD (λ_=>?_) λ_=>?_
def f2d(x:vQ)(s:ByteArray)(d:x.steps.length<=2^30):Tot (a84 x s) λ_=>True:=by refine tA (g3i _ _) λ_ _=>tD (λ_=>tC trivial) λ_=>?_;refine tO (I:=λv=>-1<=v.2/\v.2<(x.steps.length:Int)) (μ:=λv=>(v.2+1).toNat) ⟨by omega,by omega⟩ (by omega) ?_;rintro r⟨q,k⟩⟨c,b⟩a;refine tD (λ_=>tC trivial) λh=>?_;simp at h;exact tA (c6 h b) λ_ _=>tD (λ_=>tC trivial) λ_=>a _ ⟨by omega,by omega⟩ (by omega)
def e67(l:List Int)(j:l.length<=1000000):Tot (o9 l) λr=>r.length=l.length:=by
 refine tA (Q:=λr=>r.length=l.length) (tA  (tO (I:=λv=>v.1.2=[]/\0<=v.2/\v.2<=(l.length:Int)/\(v.1.1.length:Int)=v.2) (μ:=λv=>((l.length:Int)-v.2).toNat) ⟨rfl,Int.le_refl _,by omega,rfl⟩ (by omega) ?_) λr d=>tC d) λr d=>?_;.rintro r⟨⟨a,b⟩,k⟩⟨i,c,e,f⟩g;unfold a0l;dsimp only at i c e f⊢;refine tD (λh=>tC (by simp at h;omega)) λh=>?_;simp at h;refine tA (c6 c h) λx _=>?_;rw[p6 (by simp [qR,qS];omega)];exact g _ ⟨rfl,by omega,by omega,by simp;omega⟩ (by omega)
 .unfold b8s;rw[if_pos (by omega)];have:=(a8p r).length_eq;exact tC (by omega)
def f6i(l:List Int)(n:Int):Tot (c4b l n) λ_=>True:=by
 unfold c4b;simp only[a1z,qA];refine tA (Q:=λb=>b=false->l.length<=200/\1<=n/\n<=45) (tD (λ_=>tC λh=>by grind) λh=>tA (d5e l) λb a=>tC λg=>⟨a (by simp_all),by simp_all⟩) λb a=>tD (λ_=>tC trivial) λh=>?_;let ⟨p,g,r⟩:=a (by simp_all);refine tA (e67 l (by omega)) λs o=>?_;rw[e9 (by omega) (by omega)];let ⟨q,f,k⟩:∃q,a1x s (max 0 ((s.length)-n)) (s.length)=some q/\q.length<=200:=⟨_,b26 (by omega) (by omega) (by omega),by rw[List.length_take];omega⟩;rw[f,qA];refine tH q (λ(s)i=>((⟨0,0⟩:fQ),s,i)) (λs _=>I64 s) (by omega) (λc s i y e d _ j=>?_) (λc s m=>?_) 0 ⟨by decide,by decide⟩;.rw[if_pos (o6 e),e7 d];exact j _ (d5z _)
 .rw[if_neg (g9 _)];exact tA (d7p m ⟨by omega,by omega⟩) λ_ _=>tC trivial
def g5g(o:Int)(a b:fQ):Tot (b7z o a b) λ_=>True:=by refine tA (c8o a b) λ_ _=>?_;repeat' first|exact tC trivial|refine tD (λ_=>?_) λ_=>?_
def e95(o:Int)(a b:fQ):Tot (b2w o a b) λ_=>True:=tD (λ_=>tA (f1j a b) λ_ _=>tC trivial) λ_=>tD (λ_=>tA (g4i a b) λ_ _=>tC trivial) λ_=>tD (λ_=>tA (g31 a b) λ_ _=>tC trivial) λ_=>tD (λ_=>tA (g4a a b) λ_ _=>tC trivial) λ_=>tA (c8o a b) λ_ _=>tD (λ_=>tC trivial) λ_=>tC trivial
def c8e(x:vQ)(f:x.steps.length<=2^30):∀(n m:Nat)(e:Expr),2*n<=m->AR n e->Tot ((c4 m).f_eval_evaluator_expr x e) λ_=>True
 |0,_,_,_,h=>h.elim|n+1,m,e,L,h=>by
   obtain⟨m,rfl⟩:∃k,m=k+1+1:=⟨m-2,by omega⟩;obtain⟨⟨J,H,I,K,z⟩,w⟩:=h;have g:∀i:Int,0<=i->i<(e.Args.length:Int)->Tot _ λy=>AR n y:=λi A j=>(c6 A j).mono λy a=>w y a;have r:=λy a=>c8e x f n (m+1) y (by omega) a;have c:=λy a=>c8e x f n m y (by omega) a;have C:4<=e.Op->Tot _ λ_=>True:=λh=>by show Tot (a5i (c4 m) x e) _;exact tA (g 0 (by omega) (by omega)) λy a=>tA (c y a) λ_ _=>tD (λ_=>tC trivial) λ_=>tD (λ_=>tC trivial) λ_=>tD (λ_=>tA (e89 _) λ_ _=>tC trivial) λ_=>tA (f1i _) λ_ _=>tC trivial
   have t:7<=e.Op->Tot _ λ_=>True:=λh=>by show Tot (a5d (c4 m) x e) _;unfold a5d;simp only[o4,y3,qA];refine tA (g 0 (by omega) (by omega)) λy a=>tA (c y a) λ_ _=>tD (λ_=>tC trivial) λ_=>tD (λ_=>tC trivial) λ_=>tD (λB=>?_) λ_=>tA (g 1 (by omega) (by omega)) λy a=>tA (c y a) λ_ _=>tC trivial;have:=z (by simp at B;omega);exact tA (g 2 (by omega) (by omega)) λy a=>tA (c y a) λ_ _=>tC trivial
   have d:7<=e.Op->∀v b,Tot (a2t (c4 (m+1)) (x,e,v,b)) λ_=>True:=λh v b=>by unfold a2t b8n t6 b8c;simp only[o4,qA];refine tD (λ_=>tA (t h) λ_ _=>tC trivial) λ_=>tA (g 0 (by omega) (by omega)) λy a=>tA (r y a) λ_ _=>tD (λ_=>tC trivial) λ_=>tA (g 1 (by omega) (by omega)) λy a=>tA (r y a) λ_ _=>tD (λ_=>tC trivial) λ_=>tD (λ_=>tA (g5g _ _ _) λ_ _=>tC trivial) λ_=>tA (e95 _ _ _) λ_ _=>tD (λ_=>tC trivial) λ_=>tA (Q:=λ_=>True) (tD (λ_=>tC trivial) λ_=>tD (λ_=>tC trivial) λ_=>tC trivial) λ_ _=>tC trivial
   have p:4<=e.Op->∀v b,(b=false->7<=e.Op)->Tot (a2s (c4 (m+1)) (x,e,v,e.Op,b)) λ_=>True:=λh v b E=>by refine tD (λ_=>tA (C h) λ_ _=>tC trivial) λF=>?_;have q:=E (by simpa using F);exact tD (λ_=>d q _ _) λ_=>tD (λ_=>d q _ _) λ_=>d q _ _
   refine tD (λ_=>tC trivial) λj=>tD (λ_=>tA (f2d x _ f) λ_ _=>tC trivial) λD=>tD (λ_=>tA (f6i _ _) λ_ _=>tC trivial) λu=>?_;simp at j D u;have l:4<=e.Op:=by omega
   exact tD (λh=>p l _ _ λe=>by rw[h]at e;cases e) λG=>tD (λh=>p l _ _ λe=>by rw[h]at e;cases e) λs=>p l _ _ λe=>by simp at G s e;omega
def c6z(s:ByteArray):∀(n m:Nat)(e:Expr),4*n<=m->EB n e->Tot ((d5 m).f_eval_mentions e s) λ_=>True|0,_,_,_,h=>h.elim|n+1,m,e,c,h=>by obtain⟨m,rfl⟩:∃k,m=k+1+1+1+1:=⟨m-4,by omega⟩;show Tot (b2a _ e s) _;unfold b2a;simp only[o4,qA];refine tA  (orT (tA (c12 _ _ (λ_=>True) (by have:=h.1;omega) λy b=>?_) λ_ _=>tC trivial)) λ_ _=>tC trivial;exact tA (c6z s n m y (by omega) (h.2.2 y b)) λ_ _=>tC λ_=>trivial
def f1d{e:Expr}(s:ByteArray)(h:EB 8001 e):Tot (b95 e s) λ_=>True:=c6z s _ FU e (by unfold FU;omega) h
def g3e(l:List Int)(P:Int->Prop)(h:∀x∈l,P x)(w:l.length<=2^30):Tot (a68 l) λr=>r.length=l.length/\∀x∈r,P x:=by
 refine tO (I:=λv=>(v.1.length=l.length/\∀x∈v.1,P x)/\0<=v.2.1/\v.2.2<(l.length:Int)/\v.2.1<=2^31/\-2^31<=v.2.2) (μ:=λv=>(v.2.2-v.2.1).toNat) ⟨⟨rfl,h⟩,Int.le_refl _,by rw[e9 (by omega) (by omega)];grind,by simp_all,by rw[e9 (by omega) (by omega)];grind⟩ (by rw[e9 (by omega) (by omega)];grind) ?_;rintro r⟨q,i,j⟩⟨⟨e,d⟩,n,o,m,u⟩g;dsimp only at e d n o m u⊢;refine tD (λk=>?_) λ_=>tC ⟨e,d⟩;simp at k;let ⟨a,s,p⟩:=c6 (l:=q) (i:=j) (by omega) (by omega);obtain⟨b,f,t⟩:=c6 (l:=q)  (by omega) (by omega);simp [s,f,qA];refine tA (c6 (by omega) (by rw[a34];omega)) λ_ _=>tA (c6 (by omega) (by rw[a34];omega)) λ_ _=>?_;rw[e9  (by omega) (by omega),e9  (by omega) (by omega)];refine g _ ⟨⟨by rw[a34,a34];omega,λx c=>?_⟩,by dsimp only;omega,by dsimp only;omega,by dsimp only;omega,by dsimp only;omega⟩ (by dsimp only;omega);rcases b6b c with rfl|c;.exact d _ t
 .rcases b6b c with rfl|c;.exact d _ p
  .exact d x c
def f8t{e:Expr}(l:List Let)(C:EB 8001 e)(H:l.length<=10)(h:∀x∈l,EB 8001 x.Body):Tot (c4e e l) λr=>r.length<=10/\∀x∈r,0<=x/\x<(l.length:Int):=by
 unfold c4e;refine tO (I:=λv=>v.1=e/\(-1<=v.2.2/\v.2.2<(l.length:Int))/\(v.2.1.length:Int)+v.2.2+1<=10/\∀x∈v.2.1,0<=x/\x<(l.length:Int)) (μ:=λv=>(v.2.2+1).toNat) ⟨rfl,⟨by rw[e9 (by omega) (by omega)];grind,by rw[e9 (by omega) (by omega)];grind⟩,by rw[e9 (by omega) (by omega)];grind,by simp⟩ (by rw[e9 (by omega) (by omega)];grind) ?_;rintro r⟨F,u,k⟩⟨j,⟨D,m⟩,B,a⟩o;dsimp only at j D m B a⊢;subst j;refine tD (λg=>?_) λ_=>tA (g3e u _ a (by omega)) λq p=>tC ⟨by omega,p.2⟩;simp at g;let ⟨y,w,G⟩:=c6   g m;simp only[w,qA];refine tA (f1d _ C) λb _=>?_;refine tH u (λ(b)i=>(F,u,b,i)) (λ_ _=>True) (by omega) (λf b i z E n _ d=>?_) (λf b _=>?_) b trivial;.rw[if_pos (o6 E)];simp only[e7 n,qA];have c:=a z (qE n);exact tA  (orT (tA (c6 c.1 c.2) λt A=>tA (f1d _ (h t A)) λ_ _=>tC trivial)) λ_ _=>d _ trivial
 .rw[if_neg (g9 _),e9  (by omega) (by omega)];refine tD (λ_=>?_) λ_=>o _ ⟨rfl,⟨by dsimp only;omega,by dsimp only;omega⟩,by dsimp only;omega,a⟩ (by dsimp only;omega);rw[p6 (by simp [qR,qS];omega)];exact o _ ⟨rfl,⟨by dsimp only;omega,by dsimp only;omega⟩,by simp;omega,λx s=>(b4a s).elim (a x) λe=>by omega⟩ (by dsimp only;omega)
def d17(x:vQ){e:Expr}(l:List Let)(o:List Bool)(s:ByteArray)(t:List Step)(p:EB 8001 e/\AR 8001 e)(A:l.length<=10)(h:∀y∈l,EB 8001 y.Body/\AR 8001 y.Body)(B:o.length=l.length)(G:t.length<=1000):Tot (a3e x e l o s t) λr=>r.2.2.1.length=l.length/\r.2.2.2.length<=t.length+11/\(r.1=0->1<=r.2.2.2.length):=by
 have w:∀(t:List _)(e:Expr),t.length<=2000->AR _ e->Tot (b1n (⟨x.view,t⟩) e) _:=λt e G h=>c8e _ (by grind) 8001 FU e (by unfold FU;omega) h;have m:∀k:Int,(k !=0)=true->k≠0:=λk h e=>by simp_all
 refine tA (f8t l p.1 A λy g=>(h y g).1) λu E=>?_;refine tH u (λ(q)i=>(q.1,(⟨x.view,[]⟩:vQ),q.2,e,u,i)) (λq i=>q.1.length<=t.length+i/\q.2.length=l.length) (by omega) (λj q i z C v d n=>?_) (λj q d=>?_) (t,o) ⟨Nat.le_refl _,B⟩;.dsimp only;rw[if_pos (o6 C)];simp only[e7 v,qA];have c:=E.2 z (qE v);let ⟨b,F,_⟩:=c6 (l:=q.2)  c.1 (by omega);let ⟨y,g,D⟩:=c6   c.1 c.2;simp only[F,g,qA];refine tD (λ_=>n q ⟨by omega,d.2⟩) λ_=>tA (w q.1 _ (by omega) (h y D).2) λa _=>tD (λf=>tC ⟨d.2,by dsimp only;omega,λe=>absurd e (m _ f)⟩) λ_=>?_;rw[p6 (by simp [qR,qS];omega)];exact n (_,_) ⟨by simp;omega,(a34 ..).trans d.2⟩
 .dsimp only;rw[if_neg (g9 _)];refine tA (w q.1 e (by omega) p.2) λa _=>tD (λf=>tC ⟨d.2,by grind,λe=>absurd e (m _ f)⟩) λ_=>?_;rw[p6 (by simp [qR,qS];omega)];exact tC ⟨d.2,by simp;omega,λ_=>by simp⟩
def e2h(x:vQ)(h:1<=x.steps.length)(a:x.steps.length<=2^30):Tot (a55 x) λ_=>True:=by unfold a55;rw[e9 (by omega) (by omega)];exact tA (c6 (by omega) (by omega)) λ_ _=>tC trivial
def e7p{v:Version}(j:VE v)(b:Int)(w:View):Tot (c2a v b w) λr=>r.1.Steps.length<=22:=by
 refine tA (Q:=λr=>r=0->VArg v) ?_ λr c=>tD (λ_=>tC (Nat.zero_le _)) λC=>?_;.exact tA (c58 w) λ_ _=>tD (λ_=>tC λh=>by omega) λ_=>tA (j.ty) λr c=>tC c
 let ⟨o,x,m⟩:=c (by simp_all);let ⟨F,H,E,I,G,t,n,D⟩:=j.vg;refine tA (d3e _ _ _ (by omega) λ_ _=>tC λ_=>trivial) λi k=>tD (λ_=>tC (Nat.zero_le _)) λf=>?_;simp at f;have A:mkI 1 false (v.Lets.length) (v.Lets.length)=some (List.replicate v.Lets.length false):=by unfold mkI;rw[if_pos ⟨by omega,rfl,by omega,by omega⟩,Int.toNat_natCast]
 rw[A,qA];have s:∀y∈v.Lets,EB _ _/\AR _ _:=λy l=>⟨(t y l).2,x y l⟩;refine tA (c6 f k.2.1) λg a=>tA (d17 _ _ _ _ [] ⟨(n g a).1,(m g a).1⟩ o s (by simp) (by simp)) λq d=>tD (λ_=>tC (Nat.zero_le _)) λe=>?_;have B:=d.2.1;simp [qS]at B;refine tA (e2h _ (d.2.2 (by simpa using e)) (by dsimp only;omega)) λz _=>tD (λ_=>?_) λ_=>tC (by dsimp only;omega);refine tA (c6 f k.2.1) λg a=>tA (d17 _ _ _ _ _ ⟨(n g a).2,(m g a).2⟩ o s d.1 (by omega)) λp u=>tD (λ_=>tC (Nat.zero_le _)) λe=>?_;exact tA (e2h _ (u.2.2 (by simpa using e)) (by dsimp only;omega)) λ_ _=>tD (λ_=>tC (by dsimp only;omega)) λ_=>tC (by dsimp only;omega)
def k8k{a:Type}(z:a)(x:Ar 6 a){i j:Int}(y:a)(hi:0<=i/\i<6)(c:0<=j):Ar.gt z (Ar.set x i y) j=if j=i then y else Ar.gt z x j:=by
 have b:=x.h;unfold Ar.gt Ar.set c7 a8h;by_cases h:j=i;.simp_all
 .have:i.toNat≠j.toNat:=by omega
  simp_all
def k4i{r d:List Span}(b:Nrm r)(h:∀x,InS r x↔InS d x/\0<=x/\x<73049)(a:∀s∈d,0<=s.From/\s.From<s.To/\s.To<=73049):r=[]↔d=[]:=by
 constructor;.rintro rfl;cases d with|nil=>rfl|cons s d=>have g:=a s (by simp);have:=(h s.From).2 ⟨⟨s,by simp,by omega⟩,by omega⟩;exact absurd this d0f
 .rintro rfl;cases r with|nil=>rfl|cons s r=>have g:=b.1 s (by simp);have:=((h s.From).1 ⟨s,by simp,by omega⟩).1;exact absurd this d0f
def CO(c:List nQ):Prop:=c.length<=2000000/\∀u∈c,(0<=u.Span.From/\u.Span.From<u.Span.To/\u.Span.To<=73049)/\0<=u.State/\u.State<3
def k7z{c:List nQ}(n:CO c)(j:Int):Tot (b6i c j 0) λr=>Nrm r/\r.length<=2000000/\(r=[]↔∀u∈c,u.State≠j):=by
 have z:=n.1;unfold b6i;refine tH c _ (λs i=>s=((c.take i).filter λu=>u.State==j).map (·.Span)) (by omega) (λd s i y t k a g=>?_) (λd s a=>?_) [] rfl
 .dsimp only;rw[if_pos (o6 t)];have m:=a9h k;have v:s.length<=2000000:=by rw[a,List.length_map];have:=length_filter_le (λu=>u.State==j) (c.take i);rw[List.length_take]at this;omega
  simp only[e7 k,qA,beq_self_eq_true,if_true];cases f:y.State==j with|true=>rw[p6 (by simp [qR,qS];omega)];exact g _ (by rw[m,a];simp[f])|false=>exact g _ (by rw[m,a];simp[f])
 .dsimp only;rw[if_neg (g9 _),List.take_length]at*;have v:s.length<=2000000:=by rw[a,List.length_map];have:=length_filter_le (λu=>u.State==j) c;omega
  let ⟨r,p,o,q,w⟩:=c1p s (by omega);rw[p];refine tC ⟨o,by omega,(k4i o q λx l=>?_).trans ?_⟩;.rw[a]at l;obtain⟨u,b,rfl⟩:=List.mem_map.1 l;exact(n.2 u (List.mem_filter.1 b).1).1
  .rw[a,map_eq_nil_iff,List.filter_eq_nil_iff];exact⟨λh u b e=>h u b (by simp[e]),λh u b e=>h u b (by simpa using e)⟩
def k68{r:List Span}(x:Nrm r)(E:r.length<=2000000):Tot (b6h r) λq=>0<=q/\q<=73049/\(q=0↔r=[]):=by
 let ⟨z,C,b,v,D⟩:=c1p r (by omega);unfold b6h c0z;rw[C,qA];refine tA (Q:=λq=>0<=q/\q<=73049/\(q=0↔z=[])) ?_ λq f=>tC ⟨f.1,f.2.1,f.2.2.trans (k4i b v x.1)⟩;refine tH z (λ(s)i=>(s,z,i)) (λs i=>0<=s/\(i=0->s=0)/\(0<i->0<s)/\∀y∈z[i-1]?,s<=y.To) (by omega) (λg s i y j a l B=>?_) (λg s l=>?_) 0 ⟨Int.le_refl _,λ_=>rfl,λh=>by omega,λy a=>by have:=(b.1 y (qE a));omega⟩
 .let ⟨p,m,u,k⟩:=l;have t:=b.1 y (qE a);have A:s<=y.From:=by
   by_cases c:i=0;.omega
   .have d:z[i-1]?=some z[i-1]:=qG _;have:=List.pairwise_iff_getElem.1 b.2 (i-1) i (by omega) j (by omega);have e:=by rw[qG j]at a;exact qH a
    rw[e]at this;have:=k _ d;omega
  dsimp only;rw[if_pos (o6 j)];simp only[e7 a,qA];rw[if_pos (by simp;omega),show min _ _=y.To by omega,e9 (n:=y.To-y.From) (by omega) (by omega),e9  (by omega) (by omega)];refine B _ ⟨by omega,λh=>by omega,λ_=>by omega,λw o=>?_⟩;rw[Nat.add_sub_cancel,a]at o;cases o;omega
 .dsimp only;rw[if_neg (g9 _)];let ⟨p,m,u,k⟩:=l;refine tC ⟨p,?_,?_⟩
  .by_cases c:z.length=0;.omega
   .have d:z[z.length-1]?=some _:=qG (by omega);have:=k _ d;have:=b.1 _ (qE d);omega
  .constructor
   .intro h;rcases Nat.eq_zero_or_pos _ with c|c;.exact List.length_eq_zero_iff.1 c
    .omega
   .rintro rfl;exact m rfl
def k5k{r:List Span}(d:Nrm r)(l:r.length<=2000000):Tot (b90 r) λq=>(q.2=true↔r≠[])/\(q.2=true->0<=q.1):=by
 let ⟨z,i,a,j,k⟩:=c1p r (by omega);have b:=k4i a j d.1;unfold b90;rw[i];refine tD (λh=>?_) λh=>?_;.have:=List.length_eq_zero_iff.1 (by simpa using h);exact tC ⟨by simp[b.1 this],λh=>by cases h⟩
 .have f:z.length≠0:=by simpa using h
  rw[e9  (by omega) (by omega)];refine tA (c6 (by omega) (by omega)) λ_ _=>tA (c6 (by omega) (by omega)) λy c=>?_;have g:=a.1 y c;rw[e9 (by omega) (by omega)];exact tC ⟨by simp [true_iff];exactλe=>f (by rw[b.2 e];rfl),λ_=>by omega⟩
def k53(f:Int->Int):Nat->Int|0=>0|n+1=>k53 f n+f n
def k2z{f g:Int->Int}:∀{n:Nat},(∀j:Nat,j<n->f j=g j)->k53 f n=k53 g n|0,_=>rfl|n+1,h=>by have:=k2z (n:=n) λj b=>h j (by omega);simp [k53,this,h n _]
def k3m{f:Int->Int}:∀{n:Nat},(∀j:Nat,j<n->0<=f j/\f j<=73049)->0<=k53 f n/\k53 f n<=73049*n|0,_=>by simp[k53]|n+1,h=>by have c:=k3m (n:=n) λj d=>h j (by omega);have b:=h n (by omega);simp [k53];omega
def own(t:Total)(j:Int):Int:=Ar.gt 0 t.Own j
def fwO(t:Total)(j:Int):Bool:=Ar.gt false t.Few j
def k2x(t:Total)(j:Int):Int:=if fwO t j=true then 0 else own t j
structure TO(c:List nQ)(t:Total)(la:Int)(k:Nat):Prop where
 o:∀j:Nat,j<k->(0<=own t j/\own t j<=73049)/\(own t j=0↔∀u∈c,u.State≠j)/\(fwO t j=true->0<own t j)s:t.Sum=k53 (own t) k
 b:t.Base=k53 (k2x t) k
 l:(la=-1/\t.Last=-1/\∀j:Nat,j<k->own t j=0)\/(0<=la/\∃q:Nat,q<k/\t.Last=q/\0<own t q)
def k4r{c:List nQ}(T:CO c)(m:Int):Tot (b41 c m) λt=>∃s,TO c t s 6:=by
 have hl:=T.1;unfold b41 lpC;refine tO (I:=λv:Total×Total×Int×Int=>∃k:Nat,v.2.2.2=k/\k<=6/\TO c v.2.1 v.2.2.1 k) (μ:=λv=>(6-v.2.2.2).toNat) ⟨0,rfl,by omega,λj h=>by omega,rfl,rfl,.inl ⟨rfl,rfl,λj h=>by omega⟩⟩ (by dsimp only;omega) ?_;rintro r⟨t0,t,s,k0⟩⟨k,e,hk,l⟩ih;dsimp only at e l;subst e;refine tD (λE=>?_) λE=>tC ⟨s,by simp at E;rw[show k=6by omega]at l;exact l⟩;simp at E;have hi:d0n 6 (k:Int)=some ():=by unfold d0n;rw[if_pos (by omega)]
 refine tA (Q:=λq=>(0<=q/\q<=73049)/\(q=0↔∀u∈c,u.State≠k)) ?_ λq B=>?_;.exact tA (k7z T _) λr X=>tA (k68 X.1 X.2.1) λq B=>tC ⟨⟨B.1,B.2.1⟩,B.2.2.trans X.2.2⟩
 have R:∀{S:Type}(z:S)(x:Ar 6 S)(y:S)(j:Nat),Ar.gt z (Ar.set x k y) j=if j=k then y else Ar.gt z x j:=λz x y j=>by rw[k8k z x y (by omega) (by omega)];simp only[Int.natCast_inj]
 simp only[hi,qA,R,if_true];have hs:=k3m (f:=own t) (n:=k) λj D=>(l.o j D).1;have hb:=k3m (f:=k2x t) (n:=k) λj D=>by have:=(l.o j D).1;unfold k2x;split<;>omega
 have J:∀d:Total,(∀j:Nat,own d j=if j=k then q else own t j)->(fwO d k=true->0<q)->(∀j:Nat,j≠k->fwO d j=fwO t j)->d.Sum=t.Sum+q->d.Base=t.Base+(if fwO d k=true then 0 else q)->d.Last=t.Last->Tot (b06 r (c,m,t0,d,s,k,k)) λt=>∃s,TO c t s 6:=by
  intro d P h2 h3 h4 h5 h6;have o:∀(i:Total),i.Own=d.Own->i.Few=d.Few->i.Sum=d.Sum->i.Base=d.Base->∀A:Int,((A=-1/\i.Last=-1/\∀j:Nat,j<k+1->own i j=0)\/(0<=A/\∃q:Nat,q<k+1/\i.Last=q/\0<own i q))->TO c i A (k+1):=by
   intro i N U e3 e4 A e5;have G:∀j:Nat,own i j=if j=k then q else own t j:=λj=>by rw[<-P j];unfold own;rw[N]
   have Y:∀j:Nat,fwO i j=fwO d j:=λj=>by unfold fwO;rw[U]
   refine⟨λj D=>?_,?_,?_,e5⟩
   .rw[G,Y];by_cases h:j=k;.subst h;rw[if_pos rfl];exact⟨B.1,B.2,h2⟩
    .rw[if_neg h,h3 j h];exact l.o j (by omega)
   .rw[e3,h4,l.s];simp only[k53,G k,if_true];rw[k2z (f:=own i) (g:=own t) λj D=>by rw[G,if_neg (by omega)]]
   .rw[e4,h5,l.b];have p:k2x i k=if fwO d k=true then 0 else q:=by unfold k2x;rw[Y,G,if_pos rfl]
    simp only[k53,p];rw[k2z (f:=k2x i) (g:=k2x t) λj D=>by unfold k2x;rw[Y,G,h3 j (by omega),if_neg (show¬j=k by omega)]]
  unfold b06;refine tA (k7z T _) λx W=>tA (k5k W.1 W.2.1) λy F=>?_;have C:x=[]↔q=0:=W.2.2.trans B.2.symm;dsimp only;rw[a42 (x:=(k:Int)) (by omega) (by omega)];have K:∀(a:Total)(b:Int),TO c a b (k+1)->Tot (r (t0,a,b,(k:Int)+1)) λt=>∃s,TO c t s 6:=λa b h=>ih _ ⟨k+1,by dsimp only;omega,by omega,h⟩ (by dsimp only;omega);refine tA (Q:=λb=>(b=true->y.2=true/\s<y.1)/\(b=false->y.2=false\/y.1<=s)) (tD (λh=>tC (by simp[h])) λh=>tC (by simp[h])) λb L=>tD (λh=>?_) λh=>?_
  .obtain⟨g1,g2⟩:=L.1 h;refine K _ _ (o (⟨d.Own,d.Few,d.Sum,d.Base,k⟩:Total) rfl rfl rfl rfl _ (.inr ⟨F.2 g1,k,by omega,rfl,?_⟩));have:own d k=q:=by rw[P,if_pos rfl]
   have hq0:q≠0:=λe=>F.1.1 g1 (C.2 e);show 0<own d k;omega
  .refine K _ _ (o _ rfl rfl rfl rfl _ ?_);rcases l.l with⟨Z,l2,V⟩|⟨Z,p,l2,V,l4⟩
   .refine .inl ⟨Z,h6.trans l2,λj D=>?_⟩;rw[P];by_cases e:j=k
    .rw[if_pos e];rcases L.2 (by simpa using h)with g|g
     .by_cases H:q=0;.exact H
      .have:=F.1.2 λe=>H (C.1 e);rw[g]at this;cases this
     .by_cases H:q=0;.exact H
      .have:=F.2 (F.1.2 λe=>H (C.1 e));omega
    .rw[if_neg e];exact V j (by omega)
   .exact .inr ⟨Z,p,by omega,h6.trans V,by rw[P,if_neg (by omega)];exact l4⟩
 refine tA (Q:=λw=>w=true->0<q) (tD (λh=>tC λ_=>by simpa using h) λ_=>tC λh=>by cases h) λw hw=>?_;have oo:=λj=>R 0 t.Own q j;have ff:∀j:Nat,j≠k->Ar.gt false (Ar.set t.Few k w) j=fwO t j:=λj h=>by rw[R,if_neg h];rfl
 have M:Ar.gt false (Ar.set t.Few k w) k=w:=by rw[R,if_pos rfl]
 have N:i64 (t.Sum+q)=t.Sum+q:=by rw[l.s];exact e9 (by omega) (by omega)
 have U:i64 (t.Base+q)=t.Base+q:=by rw[l.b];exact e9 (by omega) (by omega)
 refine tD (λh=>tJ (J _ oo (by unfold fwO;rw[M];exact hw) ff N ?_ rfl)) λh=>tJ (J _ oo (by unfold fwO;rw[M];exact hw) ff N ?_ rfl);.show i64 (t.Base+q)=_;unfold fwO;rw[M,U,if_neg (by simpa using h)]
 .show t.Base=_;unfold fwO;rw[M,if_pos (by simpa using h)];omega
def FrS(t:Total)(j:Int):Int×Int:=if fwO t j=false/\0<own t j/\0<t.Base then(own t j,t.Base)else if t.Base=0/\0<t.Sum/\j=t.Last then(1,1)else(0,1)
def k3x(t:Total){j:Int}(a:0<=j)(c:j<6):b2k t j=some (FrS t j):=by
 have b:d0n 6 j=some ():=by unfold d0n;rw[if_pos (by omega)]
 unfold b2k FrS fwO own;cases Ar.gt _ _ j<;>simp [qU,Bool.not_false,if_true,qM,if_false,qA,Bool.true_eq_false,false_and,true_and]<;>grind
def k58:List Rate:=[(⟨1,0,(⟨1,1⟩:fQ)⟩:Rate),(⟨2,0,(⟨3,2⟩:fQ)⟩:Rate),(⟨3,0,(⟨1,7⟩:fQ)⟩:Rate),(⟨3,1150,(⟨1,9⟩:fQ)⟩:Rate)]
def LW(x:Laws):Prop:=TrF x.Treaty/\x.States.length=3/\(∀s∈x.States,(0<=s.State/\s.State<6)/\SE s.Statute/\b4b s.Statute=some (0,0))/\(∀(i:Nat)(s:State),x.States[i]?=some s->s.State=i)/\x.Rates=k58
def g3f{l:List Int}(q:l.length<=9223372036854775807):Tot (b11 l) LW:=by
 refine tO  (I:=λv=>0<=v.2.2.2.2.2.2.2/\v.2.2.2.2.2.2.2<=3/\(v.2.2.2.2.1.length:Int)=v.2.2.2.2.2.2.2/\(∀s∈v.2.2.2.2.1,(0<=s.State/\s.State<6)/\SE s.Statute/\b4b s.Statute=some (0,0))/\(∀(i:Nat)(s:State),v.2.2.2.2.1[i]?=some s->s.State=i)/\v.2.2.2.2.2.2.1.Rates=k58) (μ:=λv=>(3-v.2.2.2.2.2.2.2).toNat) ⟨Int.le_refl _,by simp_all,rfl,λs h=>by grind,λi s h=>by simp at h,rfl⟩ (by simp_all) ?_;rintro r⟨L,Q,N,M,s,P,F,k⟩⟨j,K,E,z,o,A⟩D;dsimp only at j K E z o A⊢;unfold b71;refine tD (λw=>?_) λw=>?_
 .simp at w;obtain⟨m,rfl⟩:=qT j;let ⟨t,x,u,n,B⟩:=j1x (k:=m) (by omega) l q;rw[u,qA,n,qA,a42 j (by omega)];rw[p6 (by simp;omega)];refine D _ ⟨by dsimp only;omega,by dsimp only;omega,by simp;omega,λs G=>(b4a G).elim (z s) λe=>by subst e;exact⟨⟨j,by dsimp only;omega⟩,k29 B,j4h B⟩,λi y g=>?_,A⟩ (by dsimp only;omega);rcases Nat.lt_or_ge i s.length with h|h;.rw[List.getElem?_append_left h]at g;exact o i y g
  .rw[List.getElem?_append_right h]at g;have J:=(qD.1 g).1;have:=by simp at J;omega
   rw[this]at g;simp at g;subst g;dsimp only;omega
 .simp at w;refine tA (a0t _ _ q) λa _=>tA (a1i (by omega) (by omega)) λb R=>tA (a0t _ _ q) λc _=>tA (a1i (by omega) (by omega)) λd _=>?_;have C:∀x:Rules,c7 [x] 0=some x:=λx=>rfl;have u:∀x y:Rules,a8h [x] 0 y=[y]:=λx y=>rfl;have n:i64 _=90*b:=e9 (by omega) (by omega);have f:∀T,TrF T->LW ⟨s,T,F.Rates⟩:=λT H=>⟨H,by dsimp only;omega,z,o,A⟩;simp [C,u,n,qA];refine tD (λ_=>tC (f _ ⟨90*b,by omega,by omega,.inl rfl⟩)) λ_=>tD (λ_=>?_) λ_=>?_;.exact tA (b24 (by simp)) λr p=>tC (f _ ⟨90*b,by omega,by omega,.inr (.inl p)⟩)
  .exact tA (b24 (by simp)) λr p=>tC (f _ ⟨90*b,by omega,by omega,.inr (.inr p)⟩)
def k5t:a5r k58=some 0:=rfl
def k4z{x:Laws}(h:LW x):Tot (c02 x) λr=>r=0:=by
 let ⟨l,s,p,k,n⟩:=h;unfold c02;refine tH x.States (λ(_)i=>(x,i)) (λ_ _=>True) (by omega) (λa _ i y d c _ f=>?_) (λa _ _=>?_) () trivial
 .have e:=k i y c;have m:decide (y.State<0)=false:=by simp;omega
  have o:decide (y.State>=6)=false:=by simp;omega
  dsimp only;rw[if_pos (o6 d),e7 c];simp only[m,o,qM,if_false,qA];refine tA  (tA (Q:=λb=>b=false) (tD (λh=>?_) λ_=>tC rfl) λb g=>tC g) λb g=>tD (λh=>by rw[g]at h;cases h) λ_=>f () trivial;simp at h;have j:x.States[i-1]?=some _:=qG (by omega);have q:=k _ _ j;rw[e9 (by omega) (by omega),show(i)-1=((i-1:Nat):Int)by omega,e7 j];exact tC (by simp;omega)
 dsimp only;rw[if_neg (g9 _)];refine tH x.States (λ(_)i=>(x,i)) (λ_ _=>True) (by omega) (λa _ i y d c _ f=>?_) (λa _ _=>?_) () trivial;.rw[if_pos (o6 d),e7 c,qA];rw[(p y (qE c)).2.2,qA];exact tD (λh=>absurd h (by decide)) λ_=>f () trivial
 rw[if_neg (g9 _),d5j l];rw[n];exact tC rfl
def BO(b:bQ):Prop:=LW b.laws/\b.rules.Members.length<=3
def k5i{x:Laws}(h:LW x){d:Int}(g:0<=d)(f:d<=73048):∃b,b8v x d=some (b,0)/\BO b/\b.laws=x:=by
 let ⟨r,c,e⟩:=k4z h;subst e;let ⟨_,_,_,_,a⟩:=e30 h.1 d;unfold b8v;rw[c,g2p h.1 g f];refine⟨_,rfl,⟨h,?_⟩,rfl⟩;let ⟨m,_,_,e⟩:=h.1;rcases e with e|e|e<;>rw[e]at a<;>simp at a;.simp_all
 .grind
 grind
section
variable {b:bQ} (hb:BO b)
def e90(hb:BO b)(s:Int):Tot (a7y b s) λr=>SE r.1/\(r.2=true->0<=s/\s<6):=by
 let ⟨⟨j,g,d,_⟩,_⟩:=hb;unfold a7y;refine tH b.laws.States (λ(_)i=>(([]),(⟨a3j,0,[]⟩:Statute),i)) (λ_ _=>True) (by omega) (λa _ i y f c _ e=>?_) (λa _ _=>?_) () trivial;.dsimp only;rw[if_pos (o6 f),e7 c];have:=d y (qE c);exact tD (λh=>tC ⟨this.2.1,λ_=>by simp at h;omega⟩) λ_=>e () trivial
 .dsimp only;rw[if_neg (g9 _)];exact tC ⟨(⟨Nat.zero_le _,λ_ h=>by cases h⟩),λh=>by grind⟩
def e3r(hb:BO b)(s:Int):Tot (a2v b s) λr=>VE r.2.1/\(r.2.2=0->0<=s/\s<6):=by refine tA (e90 hb s) λq a=>tA (g1l a.1 _) λv c=>?_;simp [a1z,qA];exact tD (λ_=>tC ⟨g3t,λh=>by grind⟩) λh=>tC ⟨c,λ_=>a.2 (by simp_all)⟩
def d46(hb:BO b)(s:Int):Tot (a08 b s) λ_=>True:=tA (Q:=λ_=>True) (tA (d3e _ _ _ (by have:=hb.2;omega) λy _=>tC λ_=>trivial) λ_ _=>tC trivial) λ_ _=>tC trivial
def CW(b:bQ)(w:Int->Option Bool)(r:List nQ):Prop:=r.length<=2000000/\∀u∈r,(0<=u.Span.From/\u.Span.From<u.Span.To/\u.Span.To<=73049)/\∃s∈b.laws.States,u.State=s.State/\w s.State=some true
def e8z(hb:BO b){f:List aQ}(E:a48 f)(w:Int->Option Bool)(H:∀s,Tot (w s) λ_=>True):Tot (lpC (b,([]:List Scheme),(0:Int)) λD⟨d,t,k⟩=>if decide (k<(b.laws.States.length:Int))=true then Option.bind (c7 b.laws.States k) λn=>Option.bind (w n.State) λV=>if V=true then Option.bind (b1v n.Statute d.day) λR=>Option.bind (a4n 152 t [(⟨n.State,R.1⟩:Scheme)]) λI=>D (d,I,i64 (k+1))else D (d,t,i64 (k+1))else Option.bind (a4h f d.laws.Treaty) λL=>Option.bind (a7e f L t d.day) λz=>Option.bind (a71 z.1) λo=>some o) (CW b w):=by
 let ⟨⟨K,W,l,a⟩,_⟩:=hb;refine tH b.laws.States (λ(q)i=>(b,q,i)) (λq i=>q.length<=i/\∀x∈q,x.Version.Credits.length<=2^30/\∃s∈b.laws.States,x.State=s.State/\w s.State=some true) (by omega) (λB q i y M m j F=>?_) (λB q j=>?_) [] ⟨Nat.zero_le _,by simp⟩;.dsimp only;rw[if_pos (o6 M),e7 m,qA];obtain⟨v,h,_⟩:=H _;rw[h];refine tD (λA=>tA (g1l (l y (qE m)).2.1 _) λv S=>?_) λ_=>F q ⟨by omega,j.2⟩;rw[p6 (by simp [qR,qS];omega)];exact F _ ⟨by simp;omega,λx a=>(b4a a).elim (j.2 x) λe=>by subst e;have:=S.vg.1;exact⟨by dsimp only;omega,y,qE m,rfl,by rw[h,A]⟩⟩
 .dsimp only;rw[if_neg (g9 _)];have X:=E.len;refine tA (f4q E K) λg Y=>tA (e4v f g q _ (by omega) (by omega) (by omega) λx a=>(j.2 x a).1) λc T=>tA (e1m c.1 ?_) λr C=>tC ⟨C.1,λu Q=>?_⟩;rotate_left;.let ⟨N,p,G,e⟩:=C.2 u Q;let ⟨x,a,P⟩:=T.2 p G;let ⟨s,l,U,J⟩:=(j.2 x a).2;exact⟨N,s,l,by rw[<-e,P,U],J⟩
  have:q.length*(g.length+6*f.length)<=3*(100+6*28):=Nat.mul_le_mul (by omega) (by omega);omega
def k4y(hb:BO b){f:List aQ}(a:a48 f):Tot (a0s b f b) (CW b (a08 b)):=e8z hb a _ (d46 hb)
def e01(hb:BO b){f:List aQ}(a:a48 f)(s:Int):Tot (a2z b f s) λr=>r.length<=2000000/\(a08 b s=some true->a0s b f b=some r):=by
 let ⟨m,d,_⟩:=d46 hb s;let ⟨c,g,h⟩:=k4y hb a;unfold a2z;rw[d,qA];cases m;.exact tA  (tA (e8z hb a (λy=>b1l y s) λ_=>tC trivial) λ_ h=>tC h.1) λ_ h=>tC ⟨h,λe=>by cases e⟩
 .rw[g];exact tC ⟨h.1,λ_=>rfl⟩
def d7m(f:List aQ)(d:Int)(j:f.length<=1000):Tot (b2v f d) λ_=>True:=by
 refine tH f _ (λs i=>s.length<=i) (by omega) (λa s i y g c h e=>?_) (λa s h=>?_) [] (by simp);.unfold b30;rw[if_pos (o6 g),e7 c];simp [b6f,o4,qA];refine tD (λ_=>?_) λ_=>e _ (by omega);rw[p6 (by simp [qR,qS];omega)];simp_all
 .unfold b30 b8s;dsimp only;have:=(a8p s).length_eq;rw[if_neg (g9 _),if_pos (by omega),qA,b98 _ (by omega)];exact tC trivial
def e2l(hb:BO b){f:List aQ}(u:a48 f)(c:List nQ)(x:c.length<=2000000)(s:Int)(t:Bool):Tot (a8k b f c s t) λ_=>True:=by
 have z:=u.len;have d:=λa r h=>f1y c a r (by omega) h;have p:∀n k o i l(v:Version)j m g,VE v->Tot (a7j (f,c,n,k,o,i,l,v,j,m,g)) λ_=>True:=λn k o i l v j m g e=>by have:=e.vg.2.1;exact tA (d _ _ (by simp)) λ_ _=>tA (d _ _ (by simp)) λ_ _=>tA (d _ _ (by simp)) λ_ _=>tA (d _ _ (by simp)) λ_ _=>tA (d _ _ (by simp)) λ_ _=>tA (d _ _ (by simp)) λ_ _=>tA (e8n f c _ _ _ (by omega) (by omega)) λy w=>tD (λ_=>tC trivial) λ_=>tA (d70 _ v _ (by omega) (by omega)) λ_ _=>tD (λ_=>tC trivial) λ_=>tA (e74 _) λ_ _=>tD (λ_=>tC trivial) λ_=>tC trivial
 have q:∀n k o i l j(v:Version)m g,VE v->Tot (a85 (f,c,n,k,o,i,l,j,v,m,g)) _:=λn k o i l j v m g e=>tA (c2d _) λ_ _=>tD (λ_=>p _ _ _ _ _ v _ _ _ e) λ_=>p _ _ _ _ _ v _ _ _ e
 refine tA (e3r hb s) λv e=>tD (λ_=>tC trivial) λ_=>tA (d7m f _ (by omega)) λ_ _=>?_;unfold b4t;rw[d4x f 11 (by omega)];simp [o4,qA];exact tD (λ_=>tA (g4s _ _) λ_ _=>q _ _ _ _ _ _ _ _ _ e.1) λ_=>q _ _ _ _ _ _ _ _ _ e.1
def f0t{v:Version}(a:VE v)(k:Int)(w:View):Tot (c1k v k w) λr=>r.1.Steps.length<=22:=tA (e7p a k w) λ_ h=>tD (λ_=>tC (Nat.zero_le _)) λ_=>tA (f2v _ _) λ_ _=>tC h
def ND(b:bQ)(t:Total)(s:Int):Int×Int:=if a08 b s=some true then FrS t s else(0,1)
def k65(hb:BO b){f:List aQ}(p:a48 f)(s k d:Int){c:List nQ}{t:Total}(l:a0s b f b=some c)(B:b41 c b.rules.MinDays=some t):Tot (a8d b ⟨s,k,d,0,false,0,0,0,0,0,0,[]⟩ f) λr=>r.2.Steps.length<=22/\(r.1=0->r.2.Code=0/\(r.2.Num,r.2.Den)=ND b t s):=by
 have u:∀(a:Award)(v:Version)(c:List nQ),VE v->c.length<=2000000->(a.Steps.length<=22/\a.Code=0/\(a.Num,a.Den)=ND b t s)->Tot (a8c (a,f,b,v,c)) λr=>r.2.Steps.length<=22/\(r.1=0->r.2.Code=0/\(r.2.Num,r.2.Den)=ND b t s):=λa v c j l g=>tD (λ_=>tA (e2l hb p c l _ _) λ_ _=>tD (λ_=>tC ⟨g.1,λ_=>g.2⟩) λ_=>tA (f0t j _ _) λ_ o=>tD (λ_=>tC ⟨g.1,λ_=>g.2⟩) λ_=>tA (e9s _ _ _ _) λ_ _=>tD (λ_=>tC ⟨g.1,λ_=>g.2⟩) λ_=>tD (λ_=>tC ⟨o,λ_=>g.2⟩) λ_=>tC ⟨g.1,λ_=>g.2⟩) λ_=>tC ⟨g.1,λ_=>g.2⟩
 have y:∀(a:Award)(v:Version)(c:List nQ)w,VE v->c.length<=2000000->(a.Steps.length<=22/\a.Code=0/\(a.Num,a.Den)=ND b t s)->Tot (a7k (a,f,b,v,c,w)) _:=λa v c w j l g=>tD (λ_=>tA (f0t j _ _) λ_ o=>tD (λ_=>tC ⟨g.1,λ_=>g.2⟩) λ_=>u _ _ _ j l ⟨o,g.2⟩) λ_=>u _ _ _ j l g
 have z:∀{q:Int}{a:Award},(q !=0)=true->a.Steps=[]->Tot (some (q,a)) λr=>r.2.Steps.length<=22/\(r.1=0->r.2.Code=0/\(r.2.Num,r.2.Den)=ND b t s):=λh e=>tC ⟨by rw[e];exact Nat.zero_le _,λe=>by simp_all⟩;refine tA (e3r hb _) λv j=>tD (λh=>z h rfl) λA=>tA (e01 hb p _) λC i=>tA (e2l hb p C i.1 _ _) λw _=>tD (λh=>z h rfl) λ_=>?_;have x:=j.2 (by simpa using A);let ⟨m,n,_⟩:=d46 hb s;rw[n,qA];cases m;.exact y ⟨s,k,d,0,false,0,0,0,0,1,0,[]⟩ _ _ _ j.1 i.1 ⟨Nat.zero_le _,rfl,by unfold ND;rw[n,if_neg (by simp)]⟩
 .have e:=i.2 n;rw[l]at e;obtain rfl:=qH e;have D:d0n 6 s=some ():=by unfold d0n;rw[if_pos (by omega)]
  rw[B,qA,D,k3x t x.1 x.2];exact y _ _ _ _ j.1 i.1 ⟨Nat.zero_le _,rfl,by unfold ND;rw[n,if_pos rfl]⟩
end
def k8i{x:Laws}(h:LW x){f:List aQ}(i:a48 f)(s k:Int){d:Int}(n:0<=d)(o:d<=73048){b:bQ}(g:b8v x d=some (b,0))(l:BO b){c:List nQ}{t:Total}(m:a0s b f b=some c)(j:b41 c b.rules.MinDays=some t):Tot (b47 x f s k d) λr=>r.Steps.length<=22/\(r.Code=0->(r.Num,r.Den)=ND b t s):=by unfold b47;rw[g,qA];refine tA (k65 l i s k d m j) λq a=>tJ ?_;refine tD (λh=>tC ⟨Nat.zero_le _,λe=>?_⟩) λh=>tC ⟨a.1,λ_=>(a.2 (by simpa using h)).2⟩;dsimp only at h e;rw[e]at h;cases h
def e44{l:List aQ}(h:l.length<=27)(c:(l.filter c30).length<=12):a48 (e16 l)/\(e16 l).length<=27:=by
 let ⟨b,_,f⟩:=e9u l;refine⟨⟨b,by omega,?_⟩,by omega⟩;have d:((e16 l).filter c30).length<=((l.filter vld).filter c30).length:=by unfold e16;simpa using d00 (l.filter vld) []
 have e:((l.filter vld).filter c30).length<=(l.filter c30).length:=by rw[filter_filter,show(λa=>c30 a&&vld a)=λa=>vld a&&c30 a from funext λa=>Bool.and_comm _ _,<-filter_filter];grind
 omega
def f2u(l:List tN)(n:List Int)(b:Bool)(t:l.length<=9223372036854775807)(hn:n.length<=9223372036854775807):Tot (b0g l n b) λf=>a48 f/\f.length<=27:=by
 refine tO (I:=λv=>0<=v.2/\v.2<=8/\(v.1.length:Int)=v.2) (μ:=λv=>(8-v.2).toNat) ⟨Int.le_refl _,by omega,rfl⟩ (by omega) ?_;rintro r⟨o,k⟩⟨a,p,i⟩j;unfold b5j;dsimp only at a p i⊢;rw[a7h];refine tD (λc=>?_) λ_=>tD (λ_=>tA (f7m hn) λv d=>?_) λ_=>?_;.simp at c;refine tA (c6 a c.1) λf _=>tA (f5k _) λm _=>?_;rw[p6 (by simp [qR,qS];omega),a42 a (by omega)];exact j _ ⟨by omega,by omega,by simp;omega⟩ (by omega)
 .have s:=g5h v 1;have e:=length_filter_le c30 o;have q:(ofP v 1).filter c30=[]:=by rw[List.filter_eq_nil_iff];intro u g h;exact d.2 u (List.mem_filter.1 g).1 (by simpa[c30]using h)
  rw[g9t v 1 (by omega),qA,p6 (by omega),qA,d8r _ (by rw[qL];omega)];exact tC (e44 (by rw[qL];omega) (by rw[filter_append,q,List.append_nil];omega))
 .have e:=length_filter_le c30 o;rw[d8r _ (by omega)];exact tC (e44 (by omega) (by omega))
def d0r(a:Award)(h:a.Steps.length<=22):a59 a a=some true:=by
 have c:a61 a.Steps a.Steps=some true:=by
  unfold a61;let ⟨r,f,e⟩:Tot (d9 FU (a3k a.Steps a.Steps) 0) λr=>r=true:=by
   refine tH a.Steps (λ(_)i=>i) (λ_ _=>True) (by omega) (λb _ i y g d _ j=>?_) (λb _ _=>?_) () trivial;.unfold a3k;simp [e7 d,qA,beq_self_eq_true,Bool.and_self,qU,qM,if_false];simp_all
   .unfold a3k;rw[if_neg (g9 _)];exact tC rfl
  simp_all
 unfold a59;simp [beq_self_eq_true,if_true,qA,c]
def g9s{x:Laws}(h:LW x){f:List aQ}(z:a48 f)(k d:Int)(P:State->Award->Prop)(t:∀s∈x.States,Tot (b47 x f s.State k d) (P s)):Tot (c4q x f k d) λr=>r.length=x.States.length/\∀(i:Nat)(s:State),x.States[i]?=some s->∃a,r[i]?=some a/\P s a:=by
 have A:=h.2.1;unfold c4q;refine tH x.States (λ(o)i=>(x,o,i)) (λo i=>o.length=i/\∀(j:Nat)(s:State),j<i->x.States[j]?=some s->∃a,o[j]?=some a/\P s a) (by omega) (λg o i y p l c u=>?_) (λg o c=>?_) [] ⟨rfl,λj s n=>by omega⟩
 .dsimp only;rw[if_pos (o6 p),e7 l,qA];let ⟨a,v,q⟩:=t y (qE l);rw[v,qA,p6 (by simp [qR,qS];omega)];refine u _ ⟨by simp[c.1],λj s n e=>?_⟩;by_cases m:j<i;.let ⟨b,B,w⟩:=c.2 j s m e;exact⟨b,by rw[List.getElem?_append_left (by omega)];omega,w⟩
  .have:j=i:=by omega
   subst this;rw[l]at e;cases e;exact⟨a,by rw[List.getElem?_append_right (by omega),c.1];simp,q⟩
 .dsimp only;rw[if_neg (g9 _)];exact tC ⟨c.1,λi s e=>c.2 i s (by grind) e⟩
def l1c{σ a ρ:Type}{f:(σ->Option ρ)->σ->Option ρ}{g:(a->Option ρ)->a->Option ρ}(R:σ->a->Prop)(h:∀(r:σ->Option ρ)(c:a->Option ρ),(∀x y,R x y->r x=c y)->∀x y,R x y->f r x=g c y):∀(k:Nat)(x:σ)(y:a),R x y->d9 k f x=d9 k g y|0,x,y,b=>rfl|k+1,x,y,b=>h _ _ (λx y e=>l1c R h k x y e) x y b
def l2w{L M:lQ}{d:Int}(c:∀l∈[[3],[1,2],[1],[7,8]],a2j L d l=a2j M d l)(j:a8j L.facts d=a8j M.facts d)(m:L.postings=M.postings)(u:L.rules=M.rules)(t:L.span=M.span):a7m L d=a7m M d:=by
 have v:=c [3] (by simp);have o:=c [1] (by simp);have i:∀b,a4c L d b=a4c M d b:=by
  intro b;unfold a4c;have:a2q L d b=a2q M d b:=by unfold a2q;rw[m]
  rw[this]
 have f:a5v L d=a5v M d:=by unfold a5v;rw[v]
 have e:a4b L d=a4b M d:=by unfold a4b;rw[(c [7,8] (by simp))]
 have h:∀a,a3v L d a=a3v M d a:=by
  intro a;unfold a3v;rw[(c [1,2] (by simp))];have g:∀(k:Nat)(q:List aQ),d9 k (a2g q d a) (L,[],0,q,0)=d9 k (a2g q d a) (M,[],0,q,0):=by
   intro k q;refine l1c   (λx y=>x.1=L/\y.1=M/\x.2=y.2) ?_ k _ (M,[],0,q,0) ⟨rfl,rfl,rfl⟩;rintro r z w⟨_,x⟩⟨_,y⟩⟨p,n,s⟩;subst p n s;unfold a2g;simp only[j,o];split;.congr 1;funext _;congr 1;funext _;exact w _ _ ⟨rfl,rfl,rfl⟩
   .rfl
  simp only[g FU]
 unfold a7m;simp only[i,f,e,h,j,u,t]
structure Late(d:Int)(u:aQ):Prop where
 kind:u.Kind=1from':d<=u.Span.From
 to':d<=u.Span.To
def l1l(u:aQ):List aQ:=if cur u=true then[u]else[]
def l1g(f:List aQ)(u:aQ):(f++[u]).filter cur=f.filter cur++l1l u:=by unfold l1l;cases h:cur u<;>simp[h]
def l1s{k d:Int}{u:aQ}(h:Late d u)(a:k≠1)(f:List aQ)(s:Int×Bool):(f++l1l u).foldl (c9p k) s=f.foldl (c9p k) s:=by
 rw[foldl_append];unfold l1l;split
 .have:(u.Kind==k)=false:=by rw[h.kind];simp;omega
  simp[c9p,this]
 .rfl
def l2k{d:Int}{u:aQ}(h:Late d u)(f:List aQ):c3g (f++[u])=c3g f:=by unfold c3g;rw[l1g,l1s h (by omega)]
def l2s{d:Int}{u:aQ}(h:Late d u)(f:List aQ):d3m (f++[u])=d3m f:=by unfold d3m;rw[l1g,l1s h (by omega)]
def l1f{d:Int}{u:aQ}(h:Late d u)(f:List aQ):a4q (f++[u])=a4q f:=by unfold a4q d2r;rw[l2k h,l2s h]
def l2f{d:Int}{u:aQ}(h:Late d u)(f:List aQ)(o:f.length<=999):competence_Postings (f++[u])=competence_Postings f:=by
 have n:(f++[u]).length=f.length+1:=by simp
 have c:∀g:List aQ,(g.filter cur).length<=g.length:=λg=>length_filter_le _ _;have b:∀g:List aQ,((g.filter cur).all λf=>c4v f.Seat&&c4v f.State)=true:=by intro g;rw[qX];intro u k;let ⟨_,m,l,_⟩:=c3d (f1a k);unfold c4v;simp [qB,decide_eq_true_eq];omega
 have e:((f++[u]).filter cur).foldl b6k []=(f.filter cur).foldl b6k []:=by
  rw[l1g,foldl_append];unfold l1l;split
  .have:¬u.Kind=4:=by rw[h.kind];omega
   simp[b6k,this]
  .rfl
 have i:∀(M:List _)(a:List _),b4v (f++[u]) M a=b4v f M a:=by intro M;induction M with|nil=>intro a;rfl|cons q M j=>intro a;unfold b4v;rw[c27 f (by omega),c27 _ (by omega),l1f h];simp [j]
 unfold competence_Postings;rw[b9a f (by omega),b9a _ (by omega),qA,qA];rw[if_pos ⟨by have:=c (f++[u]);omega,b _⟩,if_pos ⟨by have:=c f;omega,b _⟩,e];simp [i]
def l3i{d e:Int}{u:aQ}(h:Late d u)(j:e<d)(f:List aQ)(k:f.length<=999)(s c:Span)(P i:List Posting)(T g:List Rules)(a:List Int)(m:a.length<=100):a2j (⟨f++l1l u,s,P,T⟩:lQ) e a=a2j (⟨f,c,i,g⟩:lQ) e a:=by
 have l:(l1l u).length<=1:=by unfold l1l;split<;>simp
 rw[f8v _ e a (by simp [qL];omega) (by omega),f8v _ e a (by show f.length<=_;omega) (by omega)];simp only[filter_append];have:(l1l u).filter (λu=>(a.any λy=>u.Kind==y)&&c7f u.Span e)=[]:=by
  unfold l1l;have b:c7f u.Span e=false:=by have:=h.from';unfold c7f;simp;omega
  split<;>simp[b]
 rw[this,List.append_nil]
def l1j(d:Int)(s:aQ×Bool)(y:aQ):aQ×Bool:=if(cur y&&(y.Kind==5))&&c7f y.Span d then(if(!s.2||decide (y.Span.From>s.1.Span.From))||(y.Span.From==s.1.Span.From&&decide (y.State<s.1.State))then(y,true)else s)else s
def noF:aQ:=⟨0,0,0,false,0,0,0,(⟨0,0⟩:Span),0,0,0,0,0⟩
def l2q(l:List aQ)(d:Int)(c:l.length<=2^30):d9 FU (a4t l d) (noF,false,0)=some ((l.foldl (l1j d) (noF,false)).1.State,(l.foldl (l1j d) (noF,false)).2):=by
 refine e7o  l (λ(s)i=>(s.1,s.2,i)) _ (λs=>some (s.1.State,s.2)) c (noF,false) (λ_ _=>True) trivial (λa s i y b _=>⟨trivial,?_⟩) λa s _=>?_
 .unfold a4t;rw[if_pos (o6 ((qD.1 b).1))];simp only[e7 b,qA,b6f,y3,o4];have:(((!cur y)||(y.Kind !=5))||decide (d<y.Span.From)||decide (d>=y.Span.To))=!((cur y&&(y.Kind==5))&&c7f y.Span d):=by unfold c7f;grind
  rw[this];unfold l1j;cases(cur y&&(y.Kind==5))&&c7f _ d;.simp
  .simp [qU,qM,if_false,if_true];split<;>rfl
 .unfold a4t;simp_all
def l3d{d e:Int}{u:aQ}(h:Late d u)(f:List aQ)(j:f.length<=999):a8j (f++l1l u) e=a8j f e:=by
 have i:(l1l u).length<=1:=by unfold l1l;split<;>simp
 have a:(f++l1l u).length<=2^30:=by rw[qL];omega
 have c:a4q (f++l1l u)=a4q f:=by
  unfold l1l;split;.exact l1f h f
  .rw[List.append_nil]
 have g:∀s,(l1l u).foldl (l1j e) s=s:=by
  intro s;unfold l1l;split
  .have:(u.Kind==5)=false:=by rw[h.kind];rfl
   simp[l1j,this]
  .rfl
 have b:=l2q _ e a;rw[foldl_append,g,<-(l2q f e (by omega))]at b;unfold a8j;rw[c27 _ a,c27 f (by omega),c];unfold noF at b;simp [b]
def l28{d e:Int}{u:aQ}(h:Late d u)(c:e<d)(f:List aQ)(i:f.length<=999)(P:List Posting)(T:List Rules):a7m (⟨(f++[u]).filter cur,a4q (f++[u]),P,T⟩:lQ) e=a7m (⟨f.filter cur,a4q f,P,T⟩:lQ) e:=by have a:(f.filter cur).length<=999:=Nat.le_trans (length_filter_le _ _) i;rw[l1g,l1f h];refine l2w (λg b=>l3i h c _ a _ _ _ _ _ _ g ?_) (l3d h _ a) rfl rfl rfl;simp [qO,List.not_mem_nil,or_false]at b;rcases b with rfl|rfl|rfl|rfl<;>simp
def l2u(L:List aQ):List Int:=L.flatMap λu=>[u.Span.From,u.Span.To]
def l3e(P:List Posting)(r:Rules):List Int:=r.From::P.map λp=>min (i64 (p.Span.From+r.PostingLimit)) 73049
def l1u(L:lQ):List Int:=[0,73049,L.span.From,L.span.To]++l2u L.facts++L.rules.flatMap (l3e L.postings)
def l2e{a β:Type}{l:List a}{i:Nat}{y:a}(g:a->List β)(h:l[i]?=some y):(l.take (i+1)).flatMap g=(l.take i).flatMap g++g y:=by rw[a9h h];simp
def l22{a β:Type}(g:a->List β)(n:Nat):∀l:List a,(∀x∈l,(g x).length<=n)->(l.flatMap g).length<=n*l.length|[],_=>by simp|x::l,h=>by have e:=h x (by simp);have d:=l22 g n l λy b=>h y (by simp[b]);rw[List.flatMap_cons,qL,qR,Nat.mul_add];omega
def l2h(L:lQ)(D:L.facts.length<=100)(E:L.postings.length<=12)(C:L.rules.length<=2):Tot (a6t L) λr=>r=de (b89 (l1u L)):=by
 refine tH L.facts (λ(s)i=>(L,s,i)) (λs i=>s=[0,73049,L.span.From,L.span.To]++l2u (L.facts.take i)) (by omega) (λo s i y m e d w=>?_) (λo s d=>?_) _ (by simp[l2u])
 .have c:(l2u _).length<=2*(L.facts.take i).length:=l22 _ 2 _ (by simp);have g:s.length<=4+2*100:=by rw[d,qL];simp at c⊢;omega
  unfold a8a;rw[if_pos (o6 m)];simp only[e7 e,qA];rw[p6 (by simp only[qR,qS];omega),qA];exact w _ (by rw[d];unfold l2u;rw[l2e _ e];simp)
 .unfold a8a;rw[if_neg (g9 _)];rw[List.take_length]at d;have c:(l2u _).length<=2*L.facts.length:=l22 _ 2 _ (by simp);have g:s.length<=4+2*100:=by rw[d,qL];simp at c⊢;omega
  have h:∀n,((L.rules.take n).flatMap (l3e L.postings)).length<=13*2:=λn=>by
   have F:=l22 (l3e _) 13 (L.rules.take n) (λx _=>by unfold l3e;simp;omega);have G:(L.rules.take n).length<=2:=by rw[List.length_take];omega
   omega
  refine tH L.rules (λ(q)i=>(L,q,i)) (λq i=>q=s++(L.rules.take i).flatMap (l3e L.postings)) (by omega) (λf q i y m e a l=>?_) (λf q a=>?_) s (by simp)
  .have A:q.length<=250:=by rw[a,qL];have:=h i;omega
   unfold a89;rw[if_pos (o6 m)];simp only[e7 e,qA];rw[p6 (by simp only[qR,qS];omega),qA];refine tH L.postings (λ(z)k=>(L,z,y,k)) (λz k=>z=q++[y.From]++(L.postings.take k).map λp=>min (i64 (p.Span.From+y.PostingLimit)) 73049) (by omega) (λj z k x B u b t=>?_) (λj z b=>?_) _ (by simp)
   .have v:z.length<=300:=by rw[b];simp;omega
    unfold a81;rw[if_pos (o6 B)];simp only[e7 u,qA];rw[p6 (by simp only[qR,qS];omega),qA];exact t _ (by rw[b,a9h u];simp)
   .unfold a81;rw[if_neg (g9 _)];exact l z (by rw[b,a,l2e _ e];unfold l3e;simp)
  .rw[List.take_length]at a;have A:q.length<=250:=by rw[a,qL];have:=h L.rules.length;rw[List.take_length]at this;omega
   unfold a89;dsimp only;rw[if_neg (g9 _)];unfold b8s;rw[if_pos (by omega),qA];have g:=(a8p q).length_eq;rw[b98 _ (by omega),qA];exact tC (by rw[a,d];rfl)
def l1w(L:lQ):(de (b89 (l1u L))).Pairwise (.<.):=l0a (e2r _)
def l3c(L:lQ)(x:Int):x∈de (b89 (l1u L))↔x∈l1u L:=by rw[h0k];exact(a8p _).mem_iff
def InG(g:List gQ)(s r e:Int):Prop:=∃q∈g,(q.State=s/\q.Rule=r)/\q.Span.From<=e/\e<q.Span.To
def DD(c:List Int)(w:Int->Option (Int×Int))(k:Nat)(s r e:Int):Prop:=∃(j:Nat)(x y:Int),j<k/\c[j]?=some x/\c[j+1]?=some y/\x<=e/\e<y/\w x=some (s,r)/\r≠0
def l1r{g:List gQ}{q:gQ}{s r e:Int}:InG (g++[q]) s r e↔InG g s r e\/((q.State=s/\q.Rule=r)/\q.Span.From<=e/\e<q.Span.To):=by
 constructor
 .rintro⟨z,a,h⟩;rcases qK.1 a with a|a;.exact .inl ⟨z,a,h⟩
  .rw[qF]at a;subst a;exact .inr h
 .rintro(⟨z,a,h⟩|h);.exact⟨z,by simp[a],h⟩
  .exact⟨q,by simp,h⟩
def l20{c:List Int}{w:Int->Option (Int×Int)}{k:Nat}{x y:Int}{q:Int×Int}(p:c[k]?=some x)(n:c[k+1]?=some y)(m:w x=some q){s r e:Int}:DD c w (k+1) s r e↔DD c w k s r e\/((q.1=s/\q.2=r)/\r≠0/\x<=e/\e<y):=by
 constructor
 .rintro⟨j,a,b,l,d,f,g,h,i,o⟩;by_cases t:j=k;.subst t;rw[p]at d;cases d;rw[n]at f;cases f;rw[m]at i;cases i;exact .inr ⟨⟨rfl,rfl⟩,o,g,h⟩
  .exact .inl ⟨j,a,b,by omega,d,f,g,h,i,o⟩
 .rintro(⟨j,a,b,l,d⟩|⟨⟨l,d⟩,f,g,h⟩);.exact⟨j,a,b,by omega,d⟩
  .exact⟨k,x,y,by omega,p,n,g,h,by rw[m,<-l,<-d],f⟩
def y9z9{L:lQ}{c:List Int}(E:c.Pairwise (·<·))(V:c.length<=100)(Z:∀a,∃q,a7m L a=some q):Tot (d9 FU b8r (L,[],c,0)) λg=>g.length<=100/\∀s r e,InG g s r e↔DD c (a7m L) 100 s r e:=by
 refine tO (I:=λv:lQ×List gQ×List Int×Int=>v.1=L/\v.2.2.1=c/\∃k:Nat,v.2.2.2=(k:Int)/\k<=c.length/\v.2.1.length<=k/\(∀q∈v.2.1,q.Span.From<=q.Span.To)/\∀s r e,InG v.2.1 s r e↔DD c (a7m L) k s r e) (μ:=λv=>((c.length:Int)-v.2.2.2).toNat) ⟨rfl,rfl,0,rfl,Nat.zero_le _,Nat.le_refl _,by simp,λs r e=>⟨λ⟨_,h,_⟩=>absurd h (by simp),λ⟨_,_,_,h,_⟩=>absurd h (by omega)⟩⟩ (by dsimp only;omega) ?_;rintro F⟨M,o,l,i⟩⟨rfl,T,k,P,g1,Q,t,w⟩Y;dsimp only at T P Q t w;subst T P;unfold b8r;dsimp only;rw[a42 (x:=(k:Int)) (by omega) (by omega)];refine tD (λh=>?_) λh=>tC ⟨by omega,λs r e=>(w s r e).trans ⟨λ⟨j,x,y,d,b⟩=>⟨j,x,y,by omega,b⟩,λ⟨j,x,y,d,b,f,G⟩=>⟨j,x,y,?_,b,f,G⟩⟩⟩
 .simp only[decide_eq_true_eq]at h;obtain⟨x,C⟩:∃x,l[k]?=some x:=⟨l[k],qG (by omega)⟩;obtain⟨y,D⟩:∃y,l[k+1]?=some y:=⟨l[k+1],qG (by omega)⟩;have hxy:x<y:=by obtain⟨a1,a2⟩:=qD.1 C;obtain⟨b1,b2⟩:=qD.1 D;rw[<-a2,<-b2];exact List.pairwise_iff_getElem.1 E k (k+1) a1 b1 (by omega)
  have gy:c7 l ((k:Int)+1)=some y:=by have:=e7 D;rwa[Int.natCast_add]at this
  obtain⟨q,H⟩:=Z x;have N:∀B:List gQ,B.length<=k+1->(∀q∈B,q.Span.From<=q.Span.To)->(∀s r e,InG B s r e↔DD l (a7m M) (k+1) s r e)->Tot (F (M,B,l,(k:Int)+1)) _:=λB W p2 p3=>Y _ ⟨rfl,rfl,k+1,by simp,by omega,W,p2,p3⟩ (by dsimp only;omega);simp only[(e7 C),gy,H,qA];refine tD (λK=>N o (by omega) t λs r e=>?_) λK=>?_
  .simp only[beq_iff_eq]at K;rw[l20 C D H,w];constructor;.exact .inl
   .rintro(h|⟨⟨_,d⟩,b,_⟩);.exact h
    .omega
  have h0':q.2≠0:=by simpa using K
  have p:Tot ((a4n 32 o [(⟨(⟨x,y⟩:Span),q.1,q.2⟩:gQ)]).bind λJ=>F (M,J,l,(k:Int)+1)) λg=>g.length<=100/\∀s r e,InG g s r e↔DD l (a7m M) 100 s r e:=by
   rw[p6 (by simp only[qR,qS];omega),qA];refine N _ (by simp;omega) (λz m=>?_) λs r e=>?_
   .rcases qK.1 m with m|m;.exact t z m
    .rw[qF]at m;subst m;dsimp only;omega
   .rw[l20 C D H,l1r,w];dsimp only;constructor
    .rintro(h|⟨⟨d,b⟩,f⟩);.exact .inl h
     .exact .inr ⟨⟨d,b⟩,by omega,f⟩
    .rintro(h|⟨d,b,f⟩);.exact .inl h
     .exact .inr ⟨d,f⟩
  rcases h1f o with e|⟨A,z,e⟩;.subst e;have R:decide ((([]:List gQ).length:Int)>0)=false:=rfl;exact p
  .subst e;have hA2:(A++[z]).length=A.length+1:=by simp
   have S:A.length<2^62:=by omega
   have R:decide (((A++[z]).length:Int)>0)=true:=by simp
   simp only[R,if_true,(d3s A z S),qA,o4];refine tD (λX=>?_) λ_=>p;simp only[qB,beq_iff_eq]at X;rw[d3y A z _ S];have m:=t z (by simp);refine N _ (by simp at Q⊢;omega) (λu n=>?_) λs r e=>?_
   .rcases qK.1 n with n|n;.exact t u (by simp[n])
    .rw[qF]at n;subst n;dsimp only;omega
   .rw[l20 C D H,l1r,<-w,l1r];dsimp only;constructor
    .rintro(h|⟨⟨d,b⟩,f,G⟩);.exact .inl (.inl h)
     .by_cases he:e<x;.exact .inl (.inr ⟨⟨d,b⟩,f,by omega⟩)
      .exact .inr ⟨⟨by omega,by omega⟩,by omega,by omega,G⟩
    .rintro((h|⟨d,b,f⟩)|⟨⟨d,b⟩,f,G,U⟩);.exact .inl h
     .exact .inr ⟨d,b,by omega⟩
     .exact .inr ⟨⟨by omega,by omega⟩,by omega,U⟩
 .simp only[decide_eq_true_eq]at h;have:=(qD.1 f).1;omega
def l2n{f:List aQ}{T:List Rules}(j:a48 f)(h:TrF T){P:List Posting}(w:competence_Postings f=some P)(k:∀p,p∈P↔PM f p)(b:P.length<=12):Tot (a4h f T) λg=>g.length<=100/\∀s r e,InG g s r e↔DD (de (b89 (l1u (⟨f.filter cur,a4q f,P,T⟩:lQ)))) (a7m (⟨f.filter cur,a4q f,P,T⟩:lQ)) 100 s r e:=by
 have o:f.length<=2^30:=by have:=j.len;omega
 have i:(f.filter cur).length<=28:=by have:=length_filter_le cur f;have:=j.len;omega
 unfold a4h a9c;rw[b9a f o,qA,c27 f o,qA,w,qA,d5j h,qA,qA];have d:=l1w (⟨f.filter cur,a4q f,P,T⟩);obtain⟨c,n,rfl⟩:=l2h (⟨f.filter cur,a4q f,P,T⟩) (by show(f.filter cur).length<=100;omega) b (g97 h).1;have l:(de (b89 (l1u (⟨f.filter cur,a4q f,P,T⟩)))).length<=100:=by let ⟨r,m,t⟩:=f5m (⟨f.filter cur,a4q f,P,T⟩) i b (g97 h).1;rw[n]at m;cases m;exact t
 rw[n];have u:∀a,∃q,a7m _ a=some q:=λa=>by let ⟨q,v,_⟩:=f8b j h k b a;exact⟨q,v⟩
 generalize x:(⟨f.filter cur,a4q f,P,T⟩:lQ)=L at*;exact y9z9 d l u
def l38{c:List Int}(C:c.Pairwise (.<.))(N:c.length<=100){w:Int->Option (Int×Int)}{s r e:Int}:DD c w 100 s r e↔∃x∈c,x<=e/\(∀y∈c,y<=e->y<=x)/\(∃y∈c,e<y)/\w x=some (s,r)/\r≠0:=by
 have t:∀{i j:Nat}{a b:Int},c[i]?=some a->c[j]?=some b->i<j->a<b:=λ{i j a b}d f g=>by let ⟨K,B⟩:=qD.1 d;let ⟨H,A⟩:=qD.1 f;rw[<-B,<-A];exact List.pairwise_iff_getElem.1 C i j K H g
 have p:∀{i j:Nat}{a b:Int},c[i]?=some a->c[j]?=some b->i<=j->a<=b:=λ{i j a b}d f g=>by
  by_cases h:i=j;.subst h;rw[d]at f;cases f;omega
  .have:=t d f (by omega);omega
 constructor
 .rintro⟨j,x,y,q,l,o,m,n,u,J⟩;refine⟨x,qE l,m,λz k I=>?_,⟨y,qE o,n⟩,u,J⟩;let ⟨i,d⟩:=List.getElem?_of_mem k;by_cases g:i<=j;.exact p d l g
  .have:=p o d (by omega);omega
 .rintro⟨x,E,q,l,⟨y,D,o⟩,m,n⟩;let ⟨j,f⟩:=List.getElem?_of_mem E;let ⟨i,d⟩:=List.getElem?_of_mem D;have v:j<i:=by apply Classical.byContradiction;intro G;have:=p d f (by omega);omega
  have F:=(qD.1 d).1;let ⟨z,k⟩:∃z,c[j+1]?=some z:=⟨c[j+1],qG _ ⟩;refine⟨j,x,z,by omega,f,k,q,?_,m,n⟩;apply Classical.byContradiction;intro G;have M:=l z (qE k) (by omega);have L:=t f k (by omega);omega
def l30{d:Int}{u:aQ}(h:Late d u)(f:List aQ)(P:List Posting)(T:List Rules)(x:Int):(x∈l1u (⟨(f++[u]).filter cur,a4q (f++[u]),P,T⟩:lQ)↔x∈l1u (⟨f.filter cur,a4q f,P,T⟩:lQ)\/x∈l2u (l1l u))/\(x∈l2u (l1l u)->d<=x):=by
 constructor
 .unfold l1u l2u;rw[l1f h,l1g,List.flatMap_append];simp only[qK];constructor
  .rintro((h|h|h)|h);.exact .inl (.inl (.inl h))
   .exact .inl (.inl (.inr h))
   .exact .inr h
   .exact .inl (.inr h)
  .rintro(((h|h)|h)|h);.exact .inl (.inl h)
   .exact .inl (.inr (.inl h))
   .exact .inr h
   .exact .inl (.inr (.inr h))
 .unfold l2u l1l;split;.intro a;simp at a;have b:=h.from';have c:=h.to';omega
  .intro a;simp at a
def l3h{d e:Int}{u:aQ}(h:Late d u)(v:e<d)(w:d<=73049)(f:List aQ)(p:f.length<=999)(P:List Posting)(T:List Rules)(s r:Int)(q:(de (b89 (l1u (⟨f.filter cur,a4q f,P,T⟩:lQ)))).length<=100)(j:(de (b89 (l1u (⟨(f++[u]).filter cur,a4q (f++[u]),P,T⟩:lQ)))).length<=100):DD (de (b89 (l1u (⟨(f++[u]).filter cur,a4q (f++[u]),P,T⟩:lQ)))) (a7m (⟨(f++[u]).filter cur,a4q (f++[u]),P,T⟩:lQ)) 100 s r e↔DD (de (b89 (l1u (⟨f.filter cur,a4q f,P,T⟩:lQ)))) (a7m (⟨f.filter cur,a4q f,P,T⟩:lQ)) 100 s r e:=by
 rw[l38 (l1w _) j,l38 (l1w _) q];simp only[l3c];have a:(73049)∈l1u (⟨f.filter cur,a4q f,P,T⟩):=by unfold l1u;simp
 have b:=l30 h f P T;constructor
 .rintro⟨x,l,o,m,t,c,n⟩;exact⟨x,(by
   rcases(b x).1.1 l with g|g;.exact g
   .have:=(b x).2 g;omega),o,λy k=>m y ((b y).1.2 (.inl k)),⟨73049,a,by omega⟩,by rw[<-l28 h (by omega) f p];exact c,n⟩
 .rintro⟨x,l,o,m,t,c,n⟩;refine⟨x,(b x).1.2 (.inl l),o,λy k i=>?_,⟨73049,(b _).1.2 (.inl a),by omega⟩,by rw[l28 h (by omega) f p];exact c,n⟩;rcases(b y).1.1 k with g|g;.exact m y g i
  .have:=(b y).2 g;omega
def l2g(L:lQ)(f:L.facts.length<=28)(a:L.postings.length<=12)(d:L.rules.length<=2):(de (b89 (l1u L))).length<=100:=by obtain⟨c,g,rfl⟩:=l2h L (by omega) a d;let ⟨r,b,e⟩:=f5m L f a d;rw[g]at b;cases b;exact e
def l2i{d:Int}{u:aQ}(h:Late d u)(x:d<=73049){f:List aQ}(j:a48 f)(a:a48 (f++[u])){T:List Rules}(c:TrF T):∃g b,a4h f T=some g/\a4h (f++[u]) T=some b/\g.length<=100/\b.length<=100/\∀e,e<d->∀s r,InG b s r e↔InG g s r e:=by
 have m:=j.len;let ⟨P,i,n,k⟩:=c90 j;let ⟨B,l,A,q⟩:=c90 a;rw[l2f h f (by omega),i]at l;cases l;let ⟨g,y,z,o⟩:=l2n j c i n k;let ⟨b,w,p,t⟩:=l2n a c (by rw[l2f h f (by omega),i]) A q;refine⟨g,b,y,w,z,p,λe v s r=>?_⟩;rw[o,t];refine l3h h v x f (by omega) P T s r (l2g _ ?_ k (g97 c).1) (l2g _ ?_ k (g97 c).1);.exact Nat.le_trans (length_filter_le _ _) m
 .exact Nat.le_trans (length_filter_le _ _) (a.len)
def l25(g:List gQ)(a b:Int)(A:g.length<=2^30):Tot (b1e g a b) λr=>r.length<=g.length/\∀e,InS r e↔(∃q∈g,(q.State=a/\q.Rule<=b)/\q.Span.From<=e/\e<q.Span.To)/\0<=e/\e<73049:=by
 refine tH g _ (λs i=>s.length<=i/\∀e,InS s e↔∃q∈g.take i,(q.State=a/\q.Rule<=b)/\q.Span.From<=e/\e<q.Span.To) (by omega) (λl s i y v m n t=>?_) (λl s n=>?_) [] (by simp[InS])
 .let ⟨x,j⟩:=n;unfold b1h;rw[if_pos (o6 v)];simp only[e7 m,qA,o4];refine tD (λh=>?_) λh=>t s ⟨by omega,λe=>?_⟩
  .rw[p6 (by simp [qR,qS];omega)];simp [qB,beq_iff_eq,decide_eq_true_eq]at h;refine t _ ⟨by simp;omega,λe=>?_⟩;rw[a9h m];constructor
   .rintro⟨z,f,p⟩;rcases qK.1 f with f|f;.let ⟨q,c,d⟩:=(j e).1 ⟨z,f,p⟩;exact⟨q,by simp[c],d⟩
    .rw[qF]at f;subst f;exact⟨y,by simp,h,p⟩
   .rintro⟨q,c,d,k⟩;rcases qK.1 c with c|c;.let ⟨z,o,u⟩:=(j e).2 ⟨q,c,d,k⟩;exact⟨z,by simp[o],u⟩
    .rw[qF]at c;subst c;exact⟨q.Span,by simp,k⟩
  .rw[j,a9h m];simp only[qB,beq_iff_eq,decide_eq_true_eq]at h;constructor;.rintro⟨q,c,d⟩;exact⟨q,by simp[c],d⟩
   .rintro⟨q,c,d,k⟩;rcases qK.1 c with c|c;.exact⟨q,c,d,k⟩
    .rw[qF]at c;subst c;exact absurd d h
 .let ⟨x,j⟩:=n;unfold b1h;rw[if_neg (g9 _)];let ⟨r,o,u,w,B⟩:=c1p s (by omega);rw[o];refine tC ⟨by omega,λe=>?_⟩;rw[w,j,List.take_length]
def l3a{d b:Int}(N:b<=d){g c:List gQ}(Q:g.length<=100)(w:c.length<=100)(h:∀e,e<d->∀s r,InG c s r e↔InG g s r e)(s:Int):((b1e c s 3).bind λv=>s6 v (⟨0,b⟩:Span))=(b1e g s 3).bind λv=>s6 v (⟨0,b⟩:Span):=by
 let ⟨r,E,R,J⟩:=l25 g s 3 (by omega);let ⟨u,G,S,D⟩:=l25 c s 3 (by omega);obtain⟨F,I,H,L⟩:=b8o r _ (by omega);obtain⟨B,C,K,P⟩:=b8o u _ (by omega);rw[E,G,qA,qA,F,B];refine congrArg _ (l1t C I λx=>?_);rw[H,K,J,D];have a:x<b->((∃q∈c,(q.State=s/\q.Rule<=3)/\q.Span.From<=x/\x<q.Span.To)↔∃q∈g,(q.State=s/\q.Rule<=3)/\q.Span.From<=x/\x<q.Span.To):=λM=>by
  constructor;.rintro⟨q,l,⟨o,A⟩,n⟩;let ⟨z,i,⟨t,y⟩,k⟩:=(h x (by omega) s _).1 ⟨q,l,⟨o,rfl⟩,n⟩;exact⟨z,i,⟨t,by omega⟩,k⟩
  .rintro⟨q,l,⟨o,A⟩,n⟩;let ⟨z,i,⟨t,y⟩,k⟩:=(h x (by omega) s _).2 ⟨q,l,⟨o,rfl⟩,n⟩;exact⟨z,i,⟨t,by omega⟩,k⟩
 constructor;.rintro⟨⟨m,j⟩,f,p⟩;exact⟨⟨(a f.2).1 m,j⟩,f,p⟩
 .rintro⟨⟨m,j⟩,f,p⟩;exact⟨⟨(a f.2).2 m,j⟩,f,p⟩
def l1o(k a:Int)(s:List Span)(y:aQ):List Span:=if(cur y&&(y.Kind==k))&&(y.State==a)then s++[y.Span]else s
def l27(l:List aQ)(k a:Int)(e:l.length<=1000):b7p l k a=(a2i l).bind λv=>(s6 (l.foldl (l1o k a) []) v).bind λr=>some r:=by
 refine e7o  l _ _ (λs=>(a2i l).bind λv=>(s6 s v).bind _) (by omega) [] (λs i=>s.length<=i) (by simp) (λb s i y c f=>?_) λb s _=>?_
 .have d:=(qD.1 c).1;refine⟨(by
   unfold l1o;split;.simp;omega
   .omega),?_⟩;unfold b6o;rw[if_pos (o6 d)];simp only[e7 c,qA,b6f,o4];unfold l1o;split;.rw[p6 (by simp [qR,qS];omega),qA]
  .rfl
 .unfold b6o;rw[if_neg (g9 _)]
def l2p{d:Int}{u:aQ}(h:Late d u)(f:List aQ)(b:f.length<=999){k:Int}(c:k≠1)(a:Int):b7p (f++[u]) k a=b7p f k a:=by
 rw[l27 _ k a (by simp;omega),l27 f k a (by omega),c27 _ (by simp;omega),c27 f (by omega),l1f h];have:(u.Kind==k)=false:=by rw[h.kind];simp;omega
 simp[l1o,this]
def l1e(a b:Int)(s:List Span)(y:aQ):List Span:=if((y.Kind==10)&&(y.State==a))&&(y.Ref==b)then s++[y.Span]else s
def l2y(l:List aQ)(m:Int)(d:Span)(h:List Span)(g:Int)(i:Span×List Span×Int->Option (List Span))(s:List Span):Option (List Span):=if(decide ((s.length:Int)>0))then(a2i l).bind λc=>(s6 s c).bind λb=>(s6 b d).bind λf=>(b4k f m).bind λa=>(a4n 16 h a).bind λe=>i (d,e,i64 (g+1))else i (d,h,i64 (g+1))
def l1i(l:List aQ)(a:Int)(s:Span)(m:Int)(o:l.length<=1000):b1c l a s m=d9 FU (λj(v:Span×List Span×Int)=>if(decide (v.2.2<=99))then l2y l m v.1 v.2.1 v.2.2 j ((l.filter cur).foldl (l1e a v.2.2) [])else(a2w v.2.1).bind λc=>some c) (s,[],1):=by
 have h:(l.filter cur).length<=1000:=Nat.le_trans (length_filter_le _ _) o;unfold b1c;rw[b9a l (by omega)];refine l1c _ ?_ FU _ _ rfl;rintro r q g⟨n,e,p⟩_ rfl;have k:=funext λx=>g x x rfl;subst k;dsimp only;split
 .rw[qA];refine e7o _ (λ(s)i=>(n,e,s,l.filter cur,i)) _ _ (by omega) [] (λs i=>s.length<=i) (by simp) (λb s i y d t=>?_) λb s _=>?_
  .have f:=(qD.1 d).1;refine⟨(by
    unfold l1e;split;.simp;omega
    .omega),?_⟩;rw[if_pos (o6 f)];simp only[e7 d,qA,o4];unfold l1e;split;.rw[p6 (by simp [qR,qS];omega),qA]
   .rfl
  .rw[if_neg (g9 _)];rfl
 .rfl
def l1z{d:Int}{u:aQ}(h:Late d u)(f:List aQ)(g:f.length<=999)(a:Int)(s:Span)(m:Int):b1c (f++[u]) a s m=b1c f a s m:=by
 have c:∀b,((f++[u]).filter cur).foldl (l1e a b) []=(f.filter cur).foldl (l1e a b) []:=λb=>by
  rw[l1g,foldl_append];unfold l1l;split
  .have:(u.Kind==10)=false:=by rw[h.kind];rfl
   simp[l1e,this]
  .rfl
 have e:a2i (f++[u])=a2i f:=by rw[c27 _ (by simp;omega),c27 f (by omega),l1f h]
 rw[l1i _ a s m (by simp;omega),l1i f a s m (by omega)];unfold l2y;simp only[c,e]
def l3q{a β d:Type}{x c:Option a}{p:a->Option β}{K b:β->Option d}(f:c.bind p=x.bind p)(g:∀v,K v=b v):(c.bind λv=>(p v).bind K)=x.bind λv=>(p v).bind b:=by
 have e:∀(z:Option a)(L:β->Option d),(z.bind λv=>(p v).bind L)=(z.bind p).bind L:=λz L=>by cases z<;>rfl
 rw[e,e,f,show K=b from funext g]
def l1b{b β:Type}{x:Option b}{K a:b->Option β}(c:∀v,K v=a v):x.bind K=x.bind a:=by rw[show K=a from funext c]
def l23{a:Type}{l:List a}{i:Int}{x:a}(h:c7 l i=some x):x∈l:=qE (b8d h).2.2
def l1q{d:Int}{u:aQ}(h:Late d u)(f:List aQ)(m:f.length<=999)(l:List Scheme)(b:Int)(g o:List gQ)(T:∀s,((b1e o s 3).bind λv=>s6 v (⟨0,b⟩:Span))=(b1e g s 3).bind λv=>s6 v (⟨0,b⟩:Span)):a7e (f++[u]) o l b=a7e f g l b:=by
 unfold a7e lpC;generalize FU=n;refine l1b λv1=>?_;split;.rfl
 refine l1c (λx y=>x=y) ?_ n _ _ rfl;rintro r P I v _ rfl;have B:r=P:=funext λx=>I x x rfl;subst B;dsimp only;split;.rfl
 refine l1c (λx y=>x=y/\x.2.2.1=(⟨0,b⟩:Span)) ?_ n _ _ ⟨rfl,rfl⟩;rintro Z Y L⟨X,W,H,D⟩_⟨rfl,e⟩;dsimp only at e⊢;subst e;split
 .refine l1b λj=>?_;refine l3q (T j.State) λz=>?_;refine l1b λE=>?_;unfold b3o;rw[qA,qA];refine l1c (λx y=>x=y/\x.2.2.1=(⟨0,b⟩:Span)/\∀q∈x.2.2.2.2.1,q.kind≠1) ?_ n _ _ ⟨rfl,rfl,by simp⟩;rintro r3 r4 c⟨p,G,V,Q,i,k,t⟩_⟨rfl,e,a⟩;dsimp only at e a⊢;subst e;split;.cases U:c7 i k with|none=>rfl|some q=>
     have M:=a q (l23 U);simp only[qA,l2p h f m M,l1z h f m];refine l1b λC=>?_;split;.exact c _ _ ⟨rfl,rfl,a⟩
     refine l1b λF=>?_;refine l1b λK=>?_;refine l1b λA=>?_;split;.refine l1b λS=>?_;refine l1b λw=>?_;exact c _ _ ⟨rfl,rfl,a⟩
     split;.refine l1b λJ=>?_;refine l1b λN=>?_;exact c _ _ ⟨rfl,rfl,a⟩
     .refine l1b λR=>?_;exact c _ _ ⟨rfl,rfl,a⟩
  .exact L _ _ ⟨rfl,rfl⟩
 .rfl
def l3n{m σ ρ b:Type}{f:(σ->Option ρ)->σ->Option ρ}(l:List m)(e:b->Int->σ)(g:b->m->Option b)(out:b->Option ρ)(r:l.length<=2^30)(c:∀(a:σ->Option ρ)(s:b)(i:Nat)(y:m),l[i]?=some y->f a (e s (i:Int))=(g s y).bind λo=>a (e o (i64 ((i:Int)+1))))(d:∀(a:σ->Option ρ)(s:b),f a (e s (l.length:Int))=out s)(p:b):d9 FU f (e p 0)=(l.foldlM g p).bind out:=by
 have n:∀(k:Nat)(s:b)(i:Nat),i<=l.length->l.length-i<k->d9 k f (e s (i))=((l.drop i).foldlM g s).bind out:=by intro k;induction k with|zero=>omega|succ k q=>
    intro s i t u;show f _ _=_;by_cases h:i=l.length;.subst h;rw[d,drop_length];rfl
    .have j:i<l.length:=by omega
     rw[c _ s i _ (qG j),List.drop_eq_getElem_cons j,a5g (by omega)];show _=((g s _).bind _).bind out;rw[Option.bind_assoc];exact l1b λo=>q o _ (by omega) (by omega)
 have:=n FU p 0 (Nat.zero_le _) (by unfold FU;omega);exact this
def l1d(l:List aQ)(c:List nQ)(a:Int)(s:List earnings_income)(y:aQ):Option (List earnings_income):=(b63 y a).bind λg=>if(g==0)=true then some s else(b6i c a g).bind λh=>(s6 h y.Span).bind λd=>(a2i l).bind λe=>(s6 d e).bind λb=>if decide ((b.length:Int)>0)=true then(a4n 136 s [(⟨y,b⟩:earnings_income)]).bind λf=>some f else some s
def l1p(l:List aQ)(c:List nQ)(a:Int)(k:l.length<=1000):b13 l c a=((l.filter cur).foldlM (l1d l c a) []).bind some:=by
 have g:(l.filter cur).length<=1000:=Nat.le_trans (length_filter_le _ _) k;unfold b13;rw[b9a l (by omega),qA];refine l3n _ (λ(s)i=>(s,l.filter cur,i)) _ _ (by omega) (λb s i y d=>?_) (λb s=>?_) []
 .dsimp only;rw[if_pos (o6 ((qD.1 d).1))];simp only[e7 d,qA];unfold l1d;rw[Option.bind_assoc];refine l1b λm=>?_;split;.rw[qA]
  rw[Option.bind_assoc];refine l1b λn=>?_;rw[Option.bind_assoc];refine l1b λj=>?_;rw[Option.bind_assoc];refine l1b λe=>?_;rw[Option.bind_assoc];refine l1b λf=>?_;split;.rw[Option.bind_assoc];refine l1b λh=>?_;rw[qA]
  .rw[qA]
 .dsimp only;rw[if_neg (g9 _)]
def l1y{d:Int}{u:aQ}(h:Late d u)(f:List aQ)(o:f.length<=999)(c:List nQ)(a:Int)(n:∃z,b6i c a 1=some z/\s6 z u.Span=some []):b13 (f++[u]) c a=b13 f c a:=by
 have j:a2i (f++[u])=a2i f:=by rw[c27 _ (by simp;omega),c27 f (by omega),l1f h]
 have l:l1d (f++[u]) c a=l1d f c a:=by unfold l1d;rw[j]
 rw[l1p _ c a (by simp;omega),l1p f c a (by omega),l1g,l,foldlM_append];rw[show(λs=>(l1l u).foldlM _ s)=some from funext (by
  intro s;unfold l1l;split
  .rw[foldlM_cons];let ⟨z,m,k⟩:=n;have g:b63 u a=some 1:=by unfold b63;rw[h.kind];rfl
   obtain⟨e,p,q,b⟩:=b8o [] _ (by simp);have i:=by
    have:(d4o [] (a4q f)).length=0:=by simpa using b
    exact eq_nil_of_length_eq_zero this
   have:l1d f c a s u=some s:=by unfold l1d;rw[g,qA,if_neg (by decide),m,qA,k,qA,c27 f (by omega),qA,e,i,qA,if_neg (by decide)]
   rw[this];rfl
  .rfl)];simp
def l2z{d:Int}{u:aQ}(h:Late d u)(k:d<=73049){f:List aQ}(c:a48 f)(a:a48 (f++[u]))(b w:bQ)(j:TrF b.laws.Treaty)(t:b.day<=d):a0s b (f++[u]) w=a0s b f w:=by
 let ⟨g,s,l,p,q,v,m⟩:=l2i h k c a j;have A:=c.len;unfold a0s lpC;generalize FU=n;refine l1c (λx y=>x=y/\x.1=b) ?_ n _ _ ⟨rfl,rfl⟩;rintro r G i⟨E,o,C⟩_⟨rfl,e⟩;dsimp only at e⊢;subst e;split
 .refine l1b λz=>l1b λF=>?_;split;.exact l1b λB=>l1b λD=>i _ _ ⟨rfl,rfl⟩
  .exact i _ _ ⟨rfl,rfl⟩
 .rw[l,p,qA,qA,l1q h f (by omega) o _ g s (l3a t q v m)]
def l34{d:Int}{u:aQ}(h:Late d u)(k:d<=73049){f:List aQ}(c:a48 f)(a:a48 (f++[u]))(b:bQ)(w:Int)(j:TrF b.laws.Treaty)(t:b.day<=d):a3g b (f++[u]) w=a3g b f w:=by
 let ⟨g,s,l,p,q,v,m⟩:=l2i h k c a j;have A:=c.len;unfold a3g lpC;generalize FU=n;refine l1c (λx y=>x=y/\x.1=b) ?_ n _ _ ⟨rfl,rfl⟩;rintro r G i⟨E,o,C⟩_⟨rfl,e⟩;dsimp only at e⊢;subst e;split
 .refine l1b λz=>l1b λF=>?_;split;.exact l1b λB=>l1b λD=>i _ _ ⟨rfl,rfl⟩
  .exact i _ _ ⟨rfl,rfl⟩
 .rw[l,p,qA,qA,l1q h f (by omega) o _ g s (l3a t q v m)]
def l21{d:Int}{u:aQ}(h:Late d u)(c:d<=73049){f:List aQ}(e:a48 f)(a:a48 (f++[u]))(b:bQ)(s:Int)(i:TrF b.laws.Treaty)(g:b.day<=d):a2z b (f++[u]) s=a2z b f s:=by unfold a2z b3l;rw[l2z h c e a b b i g,l34 h c e a b s i g]
def l2a{d:Int}{u:aQ}(h:Late d u)(f:List aQ)(a:f.length<=999):b4t (f++[u])=b4t f:=by unfold b4t;rw[d4x _ 11 (by simp;omega),d4x f 11 (by omega),l1g,l1s h (by omega)]
def l1m(d:Int)(s:List Int)(y:aQ):Option (List Int):=if(cur y&&(y.Kind==10))&&decide (y.Span.From<d)then(a4n 8 s [y.Ref]).bind λv=>some v else some s
def l2l(l:List aQ)(d:Int)(c:l.length<=1000):b2v l d=(l.foldlM (l1m d) []).bind λs=>b30 [] d (λ_=>none) (s,0):=by
 refine l3n l _ _ _ (by omega) (λa s i y b=>?_) (λa s=>?_) []
 .unfold b30 l1m;rw[if_pos (o6 ((qD.1 b).1))];simp only[e7 b,qA,b6f,o4];split;.rw[Option.bind_assoc];exact l1b λv=>by rw[qA]
  .rw[qA]
 .unfold b30;rw[if_neg (g9 _),if_neg (by simp)]
def l32{d:Int}{u:aQ}(h:Late d u)(f:List aQ)(a:f.length<=999)(e:Int):b2v (f++[u]) e=b2v f e:=by
 rw[l2l _ e (by simp;omega),l2l f e (by omega),foldlM_append];have:(u.Kind==10)=false:=by rw[h.kind];rfl
 rw[show(λs=>[u].foldlM _ s)=some from funext (by
  intro s;rw[foldlM_cons];have:l1m e s u=some s:=by unfold l1m;rw[this];simp
  rw[this];rfl)];simp
def l2o{d:Int}{u:aQ}(h:Late d u)(f:List aQ)(e:f.length<=999)(c:List nQ)(a k:Int)(R:List Rate)(b:∃z,b6i c a 1=some z/\s6 z u.Span=some []):b4h (f++[u]) c a k R=b4h f c a k R:=by unfold b4h;rw[l1y h f e c a b]
def l3o{a β:Type}{K b:a->Option β}:(none:Option a).bind K=(none:Option a).bind b:=rfl
def Off(u:aQ)(c:List nQ)(a:Int):Prop:=∃z,b6i c a 1=some z/\s6 z u.Span=some []
def l26{d:Int}{u:aQ}(h:Late d u)(f:List aQ)(a:f.length<=999)(b:bQ)(c:List nQ)(s:Int)(t:Bool)(i:Off u c s):a8k b (f++[u]) c s t=a8k b f c s t:=by
 have e:∀r,a7j (f++[u],c,s,r)=a7j (f,c,s,r):=by intro r;unfold a7j;rw[l2o h f a c s _ _ i]
 have g:∀r,a85 (f++[u],c,s,r)=a85 (f,c,s,r):=by
  intro r;unfold a85 joinC;refine l1b λk=>?_;split;.exact e _
  .exact e _
 refine l1b λl=>?_;split;.rfl
 rw[l32 h f a,l2a h f a];refine l1b λo=>l1b λn=>l1b λm=>?_;split;.exact l1b λj=>g _
 .exact g _
def l33{d:Int}{u:aQ}(h:Late d u)(p:d<=73049){f:List aQ}(m:a48 f)(j:a48 (f++[u]))(b:bQ)(q:TrF b.laws.Treaty)(r:b.day<=d)(a:Award)(o:∀c,a2z b f a.State=some c->Off u c a.State):a8d b a (f++[u])=a8d b a f:=by
 have l:f.length<=999:=by have:=m.len;omega
 have n:∀(x:Award)(v:Version)(c:List nQ),x.State=a.State->Off u c a.State->a8c (x,f++[u],b,v,c)=a8c (x,f,b,v,c):=by intro x v c e g;unfold a8c;rw[l26 h f l b c _ _ (by rw[e];exact g)]
 have k:∀(x:Award)(v:Version)(c:List nQ)(w:View),x.State=a.State->Off u c a.State->a7k (x,f++[u],b,v,c,w)=a7k (x,f,b,v,c,w):=by
  intro x v c w e g;unfold a7k joinC;split
  .refine l1b λy=>?_;split;.rfl
   .exact n _ _ _ e g
  .exact n _ _ _ e g
 refine l1b λC=>?_;split;.rfl
 rw[l21 h p m j b _ q r];cases g:a2z b f _ with|none=>exact l3o|some c=>
   have i:=o c g;rw[qA,l26 h f l b c _ _ i];refine l1b λA=>?_;split;.rfl
   refine l1b λs=>?_;split;.exact l1b λt=>l1b λz=>l1b λB=>k _ _ _ _ rfl i
   .exact k _ _ _ _ rfl i
def l3j{d:Int}{u:aQ}(h:Late d u)(m:0<=d)(l:d<=73048){f:List aQ}(t:a48 f)(i:a48 (f++[u])){x:Laws}(g:LW x)(s k:Int)(v:∀b c,b8v x d=some (b,0)->a2z b f s=some c->Off u c s):b47 x (f++[u]) s k d=b47 x f s k d:=by
 obtain⟨b,j,w,e⟩:=k5i g m l;have n:b.day=d:=by obtain⟨r,p,q⟩:=k4z g;subst q;have a:=j;unfold b8v at a;rw[p,qA,g2p g.1 m l,qA]at a;cases a;rfl
 unfold b47;rw[j,qA,qA];split;.rw[l33 h (by omega) t i b (by rw[e];exact g.1) (by omega) _ (λc o=>v b c j o)]
 .rfl
def Pc{b:Type}(o:Option b)(Q:b->Prop):Prop:=∀a,o=some a->Q a
def Pc.bind{c β:Type}{o:Option c}{f:c->Option β}{Q:c->Prop}{S:β->Prop}(h:Pc o Q)(k:∀x,Q x->Pc (f x) S):Pc (o.bind f) S:=by intro b d;cases o with|none=>cases d|some a=>exact k a (h a rfl) b d
def Pc.any{a:Type}{o:Option a}:Pc o λ_=>True:=λ_ _=>trivial
def Pc.some{c:Type}{a:c}{Q:c->Prop}(h:Q a):Pc (some a) Q:=λb e=>by cases e;exact h
def Pc.ite{d:Type}{c:Prop}[Decidable c]{a b:Option d}{Q:d->Prop}(h:c->Pc a Q)(k:¬c->Pc b Q):Pc (if c then a else b) Q:=by
 split;.exact h (by assumption)
 .exact k (by assumption)
def Pc.loop{σ ρ:Type}{f:(σ->Option ρ)->σ->Option ρ}(I:σ->Prop){Q:ρ->Prop}{s:σ}(e:I s)(b:∀(r:σ->Option ρ)(s:σ),I s->(∀d,I d->Pc (r d) Q)->Pc (f r s) Q):Pc (d9 FU f s) Q:=by
 have c:∀(k:Nat)(s:σ),I s->Pc (d9 k f s) Q:=by intro k;induction k with|zero=>intro s _ a h;cases h|succ k i=>exactλs g=>b _ s g i
 exact c FU s e
def Pc.get{a:Type}{l:List a}{i:Int}:Pc (c7 l i) (.∈l):=λ_ h=>l23 h
def Pc.app{c:Type}{k:Nat}{a b:List c}:Pc (a4n k a b) λr=>r=a++b:=λr h=>by
 unfold a4n at h;split at h;.cases h;rfl
 .cases h
def Pc.tot{b:Type}{o:Option b}{Q:b->Prop}(h:Tot o Q):Pc o Q:=λa e=>by let ⟨x,d,c⟩:=h;rw[d]at e;cases e;exact c
def l3f{r:List Span}{B:Int}(b:Nrm r)(h:∀x,InS r x->x<B):∀s∈r,s.From<=B/\s.To<=B:=λs a=>by have c:=b.1 s a;have:=h (s.To-1) ⟨s,a,by omega,by omega⟩;omega
def l1n{x:List Span}{B:Int}(b:x.length<=2^40)(h:∀s∈x,s.To<=B):Pc (a2w x) λr=>Nrm r/\r.length<=x.length/\∀s∈r,s.From<=B/\s.To<=B:=by let ⟨r,g,a,c,e⟩:=c1p x b;rw[g];refine Pc.some ⟨a,e,l3f a λy f=>?_⟩;let ⟨⟨s,d,_,k⟩,_⟩:=(c y).1 f;have:=h s d;omega
def l1x{x:List Span}{B:Int}(d:x.length<=2^40):Pc (s6 x (⟨0,B⟩:Span)) λr=>Nrm r/\r.length<=x.length/\∀s∈r,s.From<=B/\s.To<=B:=by obtain⟨c,a,e,b⟩:=b8o x _ d;rw[c];exact Pc.some ⟨a,b,l3f a λy f=>by have:=((e y).1 f).2.1;dsimp only at this;omega⟩
def l3l{l:List nQ}{B:Int}(o:l.length<=2^30)(h:∀u∈l,u.Span.To<=B)(a b:Int):Tot (b6i l a b) λr=>Nrm r/\r.length<=l.length/\∀s∈r,s.From<=B/\s.To<=B:=by
 unfold b6i;refine tH l _ (λs i=>s.length<=i/\∀z∈s,z.To<=B) (by omega) (λe s i y m j d g=>?_) (λe s d=>?_) [] ⟨by simp,by simp⟩
 .dsimp only;rw[if_pos (o6 m)];simp only[e7 j,qA,y3,o4];refine tD (λ_=>?_) λ_=>g s ⟨by omega,d.2⟩;rw[p6 (by simp [qR,qS];omega)];refine g _ ⟨by simp;omega,λz c=>?_⟩;rcases qK.1 c with c|c;.exact d.2 z c
  .rw[qF]at c;subst c;exact h y (qE j)
 .dsimp only;rw[if_neg (g9 _)];let ⟨r,f,q⟩:=b2p (l:=s) (by omega);let ⟨n,p,k⟩:=l1n  (by omega) d.2 r f;rw[f];exact tC ⟨n,by omega,k⟩
def l3m{d:Int}{u:aQ}(h:Late d u){c:List nQ}(j:c.length<=2^30)(e:∀x∈c,x.Span.To<=d)(a:Int):Off u c a:=by
 let ⟨z,l,q,r,i⟩:=l3l j e a 1;refine⟨z,l,?_⟩;obtain⟨g,n,m,o⟩:=b8o z _ (by omega);rw[g];refine congrArg _ (l1t n d9x λx=>?_);constructor;.intro f;let ⟨⟨s,b,_,k⟩,p,_⟩:=(m x).1 f;have:=(i s b).2;have:=h.from';omega
 .rintro⟨s,b,_⟩;cases b
def BB(B:Int)(x:List Span):Prop:=x.length<=2^30/\∀s∈x,s.From<=B/\s.To<=B
def l3k{l:List Period}{B:Int}(n:l.length<=2^30)(h:∀p∈l,p.Span.To<=B)(a b:Int):Tot (b9z l a b) (BB B):=by
 unfold b9z;refine tH l _ (λs i=>s.length<=i/\∀z∈s,z.To<=B) (by omega) (λe s i y m j d g=>?_) (λe s d=>?_) [] ⟨by simp,by simp⟩
 .dsimp only;rw[if_pos (o6 m)];simp only[e7 j,qA,y3,o4];refine tD (λ_=>?_) λ_=>g s ⟨by omega,d.2⟩;rw[p6 (by simp [qR,qS];omega)];refine g _ ⟨by simp;omega,λz c=>?_⟩;rcases qK.1 c with c|c;.exact d.2 z c
  .rw[qF]at c;subst c;exact h y (qE j)
 .dsimp only;rw[if_neg (g9 _)];let ⟨r,f,t⟩:=b2p (l:=s) (by omega);let ⟨q,o,k⟩:=l1n  (by omega) d.2 r f;rw[f];exact tC ⟨by omega,k⟩
def BdB(B:Int)(b:Bd):Prop:=∀r∈b.l,∀x∈r.l,BB B x
def l2d{c:List Period}{B:Int}(t:c.length<=2^30)(h:∀p∈c,p.Span.To<=B):Pc (b2x c) λo=>∀b,o=some b->BdB B b:=by
 unfold b2x lpC;refine Pc.loop (λv=>BdB B v.1) (λr g x d=>by have w:=eq_of_mem_replicate g;subst w;have u:=eq_of_mem_replicate d;subst u;exact⟨by simp,by simp⟩) ?_;rintro r⟨b,s⟩l q;refine Pc.ite (λE=>?_) λ_=>Pc.some λC e=>by cases e;exact l
 refine Pc.loop (λv=>BdB B v.1) l ?_;rintro A⟨D,k⟩j f;refine Pc.ite (λz=>?_) λ_=>q _ j;refine Pc.bind (Pc.tot (l3k t h _ _)) λx d=>Pc.bind Pc.any λ_ _=>Pc.bind Pc.any λ_ _=>Pc.bind Pc.get λa g=>f _ λm i y n=>?_;rcases b6b (show m∈a8h _ s _ from i)with e|e
 .subst e;rcases b6b (show y∈a8h _ k x from n)with e|e;.subst e;exact d
  .exact j a g y e
 .exact j m e y n
def l2r{a:List (List Span)}{B:Int}(hB:0<=B)(I:∀x∈a,BB B x):Pc (b7w a) λr=>∀p∈r,p.Span.To<=B/\p.Span.From<=B:=by
 refine Pc.bind (Q:=λv=>∀x∈v,x=[]) (Pc.ite (λ_=>Pc.some λx b=>eq_of_mem_replicate b) λ_=>λ_ h=>by cases h) λX E=>?_;refine Pc.loop (λq=>(∀x∈q.1,∀s∈x,s.From<=B/\s.To<=B)/\∀x∈q.2.1,x<=B) ⟨λx b=>by rw[E x b];simp,by simp⟩ ?_;rintro r⟨W,g,L⟩⟨R,J⟩P;refine Pc.ite (λ_=>?_) λ_=>?_
 .refine Pc.bind Pc.get λx b=>Pc.bind (l1n  (by have:=(I x b).1;omega) λs A=>((I x b).2 s A).2) λz N=>Pc.bind Pc.any λ_ _=>Pc.bind Pc.any λ_ _=>Pc.bind Pc.any λ_ _=>Pc.bind Pc.get λw G=>?_;have A:∀x∈a8h W L z,∀s∈x,s.From<=B/\s.To<=B:=λx b=>by
   rcases b6b b with e|e;.subst e;exact N.2.2
   .exact R x e
  refine Pc.loop (λq=>(∀x∈q.1,∀s∈x,s.From<=B/\s.To<=B)/\∀x∈q.2.1,x<=B) ⟨A,J⟩ ?_;rintro K⟨M,T,U⟩⟨f,m⟩c;refine Pc.ite (λ_=>?_) λ_=>P _ ⟨f,m⟩;refine Pc.bind Pc.get λs F=>Pc.bind Pc.app λo C=>c _ ⟨f,λx b=>?_⟩;have j:=A w G s F;subst C;simp at b;rcases b with b|rfl|rfl;.exact m x b
  .exact j.1
  .exact j.2
 .refine Pc.bind (Q:=λl=>l=b89 g/\g.length<=1000000) (Pc.ite (λh=>Pc.some ⟨rfl,h⟩) λ_=>λ_ h=>by cases h) λl S=>?_;obtain⟨rfl,D⟩:=S;have t:(b89 g).length<=1073741824:=by have:=(a8p g).length_eq;omega
  .rw[b98 _ t,qA];refine Pc.loop (λv=>(∀x∈v.2.1,x<=B)/\∀p∈v.2.2.1,p.Span.To<=B/\p.Span.From<=B) ⟨(λx b=>J x ((a8p g).mem_iff.1 ((h0k _ _).1 b))),by simp⟩ ?_;rintro K⟨M,T,U,p4⟩⟨f,m⟩c;refine Pc.ite (λ_=>?_) λ_=>Pc.some m;refine Pc.bind Pc.any λ_ _=>Pc.bind Pc.get λx b=>Pc.bind Pc.any λ_ _=>Pc.bind Pc.get λy V=>?_;have k:=f y V;refine Pc.loop (λv=>(∀x∈v.2.1,x<=B)/\(∀p∈v.2.2.1,p.Span.To<=B/\p.Span.From<=B)/\v.2.2.2.2.1.Span=⟨x,y⟩) ⟨f,m,rfl⟩ ?_;rintro r3⟨m1,m2,m3,Y,m5,Z⟩⟨i,d,u⟩n;refine Pc.ite (λ_=>?_) λ_=>Pc.ite (λ_=>c _ ⟨i,d⟩) λ_=>?_;.refine Pc.bind Pc.any λ_ _=>Pc.bind Pc.any λ_ _=>Pc.bind Pc.any λ_ _=>Pc.ite (λ_=>Pc.bind Pc.any λ_ _=>n _ ⟨i,d,u⟩) λ_=>n _ ⟨i,d,u⟩
   .refine Pc.bind Pc.any λ_ _=>Pc.bind Pc.any λ_ _=>Pc.ite (λ_=>?_) λ_=>?_
    .refine Pc.bind Pc.any λ_ _=>Pc.bind Pc.get λw G=>c _ ⟨i,λp H=>?_⟩;rcases b6b H with e|e;.subst e;have:=d w G;rw[u];exact⟨k,this.2⟩
     .exact d p e
    .refine Pc.bind Pc.app λo C=>c _ ⟨i,λp H=>?_⟩;subst C;rcases qK.1 H with e|e;.exact d p e
     .rw[qF]at e;subst e;rw[u];exact⟨k,(f x b)⟩
def Pc.and{b:Type}{o:Option b}{Q R:b->Prop}(h:Pc o Q)(k:Pc o R):Pc o λa=>Q a/\R a:=λa e=>⟨h a e,k a e⟩
def l36{a:Type}{l:List a}{i j:Int}:Pc (a1x l i j) λr=>∀u∈r,u∈l:=λr h u b=>by
 unfold a1x at h;split at h;.cases h;exact mem_of_mem_drop (mem_of_mem_take b)
 .cases h
def l3g{b:Bd}{B f t:Int}(z o:List nQ)(j:t<=B)(i:∀u∈o,u.Span.To<=B):Pc (a72 f t b z o) λr=>∀u∈r.2,u.Span.To<=B:=by
 refine Pc.bind Pc.any λl _=>Pc.bind Pc.any λn _=>Pc.ite (λ_=>Pc.some i) λ_=>Pc.bind Pc.any λm _=>Pc.ite (λ_=>?_) λ_=>?_
 .refine Pc.bind Pc.any λ_ _=>Pc.bind Pc.any λk _=>Pc.bind l36 λd h=>Pc.bind Pc.app λc a=>Pc.some λu g=>?_;subst a;rcases qK.1 (show u∈d++_ from g)with e|e;.exact i u (h u e)
  .rw[qF]at e;subst e;exact j
 .refine Pc.bind Pc.app λc a=>Pc.some λu g=>?_;subst a;rcases qK.1 (show u∈o++_ from g)with e|e;.exact i u e
  .rw[qF]at e;subst e;exact j
def l29{c:List Period}{B:Int}(C:c.length<=10000)(D:0<=B)(h:∀p∈c,p.Span.To<=B):Pc (a71 c) λr=>∀u∈r,u.Span.To<=B:=by
 obtain⟨o,e,b,rfl,F,W⟩:=e1u c (by omega);have g:=l2d (by omega) h _ e b rfl;unfold a71;rw[e,qA];refine Pc.loop (λv=>v.1=b/\0<=v.2.2/\v.2.2<=6/\(v.2.1.length:Int)<=7*v.2.2/\∀x∈v.2.1,x.length<=c.length/\BB B x)  ⟨rfl,Int.le_refl _,by simp,by simp,by simp⟩ ?_;rintro r⟨M,l,k⟩⟨rfl,z,J,E,f⟩H;dsimp only at z J E f⊢;refine Pc.ite (λI=>?_) λ_=>?_
 .simp at I;refine Pc.bind Pc.get λa w=>Pc.bind Pc.app λo K=>?_;subst K;have N:=a.h;rw[a42 z (by omega)];refine H _ ⟨rfl,by dsimp only;omega,by dsimp only;omega,by dsimp only;rw[qL];omega,λx d=>?_⟩;rcases qK.1 d with h|h;.exact f x h
  .exact⟨F a w x h,g a w x h⟩
 .refine Pc.bind ((Pc.tot (e5k l _ (by omega) C λx d=>(f x d).1)).and (l2r D λx d=>(f x d).2)) λp A=>?_;refine Pc.loop (λv=>v.2.2.2.1=p/\∀u∈v.2.1,u.Span.To<=B) ⟨rfl,by simp⟩ ?_;rintro V⟨R,S,L,P,T,U⟩⟨rfl,t⟩j;refine Pc.ite (λ_=>?_) λ_=>Pc.some t;refine Pc.bind Pc.any λ_ _=>Pc.bind Pc.get λy s=>?_;have m:=A.1.2 y s;have n:=A.2 y s;unfold SpI at m;rw[(e9 (by omega) (by omega))];exact Pc.bind (l3g _ _ (by omega) t) λq G=>Pc.bind (l3g _ _ n.1 G) λQ i=>j _ ⟨rfl,i⟩
def l1v{x:List Span}{B:Int}(l:x.length<=2^40)(h:∀s∈x,s.To<=B)(n:Int):Pc (b4k x n) λr=>∀s∈r,s.To<=B:=by
 refine Pc.bind (l1n l h) λv c=>?_;refine Pc.loop (λq=>q.2.2.1=v/\∀s∈q.2.1,s.To<=B) ⟨rfl,by simp⟩ ?_;rintro r⟨k,o,t,i⟩⟨e,a⟩g;subst e;have d:∀(k:Int)(s:Span)(m:Int),s.To<=B->Pc (b2y r (k,o,s,t,m,i)) _:=λk s m A=>by
  refine Pc.bind Pc.app λz p=>g _ ⟨rfl,λy u=>?_⟩;subst p;rcases qK.1 (show y∈o++_ from u)with e|e;.exact a y e
  .rw[qF]at e;subst e;exact A
 refine Pc.ite (λ_=>?_) λ_=>Pc.some a;refine Pc.bind Pc.any λ_ _=>Pc.bind Pc.get λw b=>Pc.ite (λ_=>Pc.some a) λj=>?_;have D:=c.1.1 w b;have f:=(c.2.2 w b).2;simp [decide_eq_true_eq]at j;rw[e9  (by omega) (by omega)];refine Pc.ite (λC=>?_) λ_=>d _ _ _ f;simp [decide_eq_true_eq]at C;rw[e9  (by omega) (by omega)];exact d _ _ _ (by dsimp only;omega)
def l39(a b:Int):∀(l:List aQ)(s:List Span),(l.foldl (l1e a b) s).length<=s.length+l.length
 |[],s=>by simp|y::l,s=>by
   have e:=l39 a b l (l1e a b s y);have d:(l1e a b s y).length<=s.length+1:=by
    unfold l1e;split;.simp
    .omega
   rw[List.foldl_cons,qR];omega
def l2c{l:List aQ}{B:Int}(p:l.length<=1000)(a m:Int):Pc (b1c l a (⟨0,B⟩:Span) m) λr=>∀s∈r,s.To<=B:=by
 rw[l1i l a _ m p];refine Pc.loop (λq=>q.1=(⟨0,B⟩)/\(0<=q.2.2/\q.2.2<=100)/\(q.2.1.length:Int)<=1000*q.2.2/\∀s∈q.2.1,s.To<=B) ⟨rfl,by simp,by simp,by simp⟩ ?_;rintro r⟨w,o,i⟩⟨e,v,j,d⟩u;dsimp only at e v j d⊢;subst e;refine Pc.ite (λC=>?_) λ_=>Pc.bind (l1n (by omega) d) λz b=>Pc.some λs c=>(b.2.2 s c).2;simp [decide_eq_true_eq]at C;have n:=l39 a i (l.filter cur) [];have y:(l.filter cur).length<=1000:=Nat.le_trans (length_filter_le _ _) p;generalize(l.filter cur).foldl _ []=t at n;simp [qS]at n;unfold l2y;rw[a42 v.1 (by omega)];refine Pc.ite (λ_=>?_) λ_=>u _ ⟨rfl,⟨by dsimp only;omega,by dsimp only;omega⟩,by dsimp only;omega,d⟩;refine Pc.bind Pc.any λg _=>Pc.bind (Q:=λz=>z.length<=1000) (λz b=>?_) λE A=>Pc.bind (l1x (by omega)) λx f=>Pc.bind ((Pc.tot (d18 m (by omega))).and (l1v (by omega) (λs c=>(f.2.2 s c).2) m)) λk h=>Pc.bind Pc.app λz b=>?_;.let ⟨D,G,F,H⟩:=b8o t g (by omega);rw[D]at b;cases b;omega
 .subst b;refine u _ ⟨rfl,⟨by dsimp only;omega,by dsimp only;omega⟩,by dsimp only;rw[qL];omega,λs c=>?_⟩;rcases qK.1 (show s∈o++k from c)with e|e;.exact d s e
  .exact h.2 s e
def l24{k B:Int}{x:List Period}{c:Scheme}{d:List Span}{o:List Period}(h:∀s∈d,s.To<=B)(b:∀p∈o,p.Span.To<=B):Pc (a1s k d x c o) λr=>∀p∈r.2,p.Span.To<=B:=by
 unfold a1s;refine Pc.loop (λq=>∀p∈q.1,p.Span.To<=B) b ?_;rintro r⟨z,y,i⟩a j;refine Pc.ite (λ_=>Pc.bind Pc.get λs g=>Pc.bind Pc.app λw f=>j _ λp l=>?_) λ_=>Pc.some a;subst f;rcases qK.1 (show p∈z++_ from l)with e|e;.exact a p e
 .rw[qF]at e;subst e;exact h s g
def l2j{l:List aQ}{g:List gQ}{b:Int}(A:l.length<=1000)(Y:g.length<=1000)(K:List Scheme):Pc (a7e l g K b) λr=>∀p∈r.1,p.Span.To<=b:=by
 refine Pc.bind Pc.any λv1 _=>Pc.ite (λ_=>Pc.some (by simp)) λ_=>?_;refine Pc.loop (λ_=>True) trivial ?_;rintro r v _ H;refine Pc.ite (λ_=>?_) λ_=>?_;.exact Pc.bind Pc.any λ_ _=>Pc.bind Pc.any λ_ _=>Pc.bind Pc.any λ_ _=>Pc.ite (λ_=>Pc.some (by simp)) λ_=>H _ trivial
 refine Pc.loop (λq=>q.2.2.1=(⟨0,b⟩)/\∀p∈q.1,p.Span.To<=b) ⟨rfl,by simp⟩ ?_;rintro Z⟨o,y,w,i⟩⟨e,z⟩m;subst e;refine Pc.ite (λ_=>?_) λ_=>Pc.some z;refine Pc.bind Pc.any λF _=>Pc.bind (Pc.tot (e5e g _ _ (by omega))) λM R=>Pc.bind (l1x (by omega)) λS x=>Pc.bind (l24 (λs f=>(x.2.2 s f).2) z) λC k=>Pc.bind Pc.any λQ _=>?_;refine Pc.loop (λq=>q.2.2.1=(⟨0,b⟩)/\∀p∈q.1,p.Span.To<=b) ⟨rfl,k⟩ ?_;rintro T⟨z1,z2,X,W,z5,U,V⟩⟨e,c⟩a;subst e;refine Pc.ite (λ_=>?_) λ_=>m _ ⟨rfl,c⟩;refine Pc.bind Pc.any λ_ _=>Pc.bind Pc.any λ_ _=>Pc.bind Pc.any λ_ _=>Pc.ite (λ_=>a _ ⟨rfl,c⟩) λ_=>Pc.bind (Pc.tot (e59 l _ _ A)) λB G=>Pc.bind (l1x (by omega)) λI d=>Pc.bind Pc.any λJ _=>Pc.ite (λ_=>?_) λ_=>Pc.ite (λ_=>?_) λ_=>?_;.exact Pc.bind (l2c A _ _) λL n=>Pc.bind (l24 n c) λP h=>a _ ⟨rfl,h⟩
 .exact Pc.bind (l1v (by omega) (λs f=>(d.2.2 s f).2) _) λE u=>Pc.bind (l24 u c) λN t=>a _ ⟨rfl,t⟩
 .exact Pc.bind (l24 (λs f=>(d.2.2 s f).2) c) λD j=>a _ ⟨rfl,j⟩
def Tot.and_pc{b:Type}{o:Option b}{Q R:b->Prop}(h:Tot o Q)(k:Pc o R):Tot o λa=>Q a/\R a:=by let ⟨a,e,q⟩:=h;exact⟨a,e,q,k a e⟩
def l37{b:bQ}(P:BO b)(J:0<=b.day){f:List aQ}(B:a48 f)(w:Int->Option Bool)(H:∀s,Tot (w s) λ_=>True):Tot (lpC (b,([]:List Scheme),(0:Int)) λD⟨h,p,l⟩=>if decide (l<(b.laws.States.length:Int))=true then Option.bind (c7 b.laws.States l) λt=>Option.bind (w t.State) λI=>if I=true then Option.bind (b1v t.Statute h.day) λQ=>Option.bind (a4n 152 p [(⟨t.State,Q.1⟩:Scheme)]) λF=>D (h,F,i64 (l+1))else D (h,p,i64 (l+1))else Option.bind (a4h f h.laws.Treaty) λR=>Option.bind (a7e f R p h.day) λz=>Option.bind (a71 z.1) λo=>some o) λr=>r.length<=2000000/\∀u∈r,u.Span.To<=b.day:=by
 let ⟨⟨G,S,L,j⟩,_⟩:=P;refine tH b.laws.States (λ(q)i=>(b,q,i)) (λq i=>q.length<=i/\∀x∈q,x.Version.Credits.length<=2^30/\∃s∈b.laws.States,x.State=s.State/\w s.State=some true) (by omega) (λA q i y K m k E=>?_) (λA q k=>?_) [] ⟨Nat.zero_le _,by simp⟩;.dsimp only;rw[if_pos (o6 K),e7 m,qA];obtain⟨v,a,_⟩:=H _;rw[a];refine tD (λn=>tA (g1l (L y (qE m)).2.1 _) λv N=>?_) λ_=>E q ⟨by omega,k.2⟩;rw[p6 (by simp [qR,qS];omega)];exact E _ ⟨by simp;omega,λx j=>(b4a j).elim (k.2 x) λe=>by subst e;have:=N.vg.1;exact⟨by dsimp only;omega,y,qE m,rfl,by rw[a,n]⟩⟩
 .dsimp only;rw[if_neg (g9 _)];have T:=B.len;refine tA (f4q B G) λg U=>tA ((e4v f g q _ (by omega) (by omega) (by omega) λx j=>(k.2 x j).1).and_pc (l2j (by omega) (by omega) q)) λc M=>?_;have d:c.1.length<=10000:=by have:q.length*(g.length+6*f.length)<=3*(100+6*28):=Nat.mul_le_mul (by omega) (by omega);omega
  exact tA ((e1m c.1 d).and_pc (l29 d J M.2)) λr C=>tC ⟨C.1.1,C.2⟩
def l2b{b:bQ}(c:BO b)(e:0<=b.day){f:List aQ}(d:a48 f)(s:Int):Pc (a2z b f s) λr=>r.length<=2^30/\∀u∈r,u.Span.To<=b.day:=by
 refine Pc.bind Pc.any λm _=>Pc.ite (λ_=>?_) λ_=>?_;.exact Pc.bind (Pc.tot (l37 c e d _ (d46 c))) λr a=>Pc.some ⟨by omega,a.2⟩
 .exact Pc.bind  (Pc.bind (Pc.tot (l37 c e d (λy=>b1l y s) λ_=>tC trivial)) λr a=>Pc.some a) λr a=>Pc.some ⟨by omega,a.2⟩
def l3b{d:Int}{u:aQ}(h:Late d u)(l:0<=d)(j:d<=73048){f:List aQ}(n:a48 f)(m:a48 (f++[u])){x:Laws}(i:LW x)(s k:Int):b47 x (f++[u]) s k d=b47 x f s k d:=by
 refine l3j h l j n m i s k λb c g q=>?_;let ⟨A,e,o,_⟩:=k5i i l j;rw[g]at e;cases e;have a:b.day=d:=by let ⟨r,t,z⟩:=k4z i;subst z;unfold b8v at g;rw[t,g2p i.1 l j]at g;cases g;rfl
 let ⟨w,p⟩:=l2b o (by omega) n s c q;exact l3m h w (λy v=>by rw[<-a];exact p y v) s
def l31{d:Int}{u:aQ}(h:Late d u)(b:0<=d)(c:d<=73048){f:List aQ}(i:a48 f)(a:a48 (f++[u])){x:Laws}(j:LW x)(k:Int):c4q x (f++[u]) k d=c4q x f k d:=by
 unfold c4q lpC;generalize FU=n;refine l1c (λy z=>y=z/\y.1=x) ?_ n _ _ ⟨rfl,rfl⟩;rintro r p g⟨q,m,s⟩_⟨rfl,e⟩;dsimp only at e⊢;subst e;split;.refine l1b λl=>?_;rw[l3b h b c i a j];exact l1b λo=>l1b λt=>g _ _ ⟨rfl,rfl⟩
 .rfl
def l2x(a:Int):Tot (a97 a) λr=>1<=r/\r<=9000:=by have h:∀k,0<k->k<=9000->Tot (Option.bind (c2t a 4) λv=>Option.bind (b7 v k) λw=>some (i64 (1+w))) λr=>1<=r/\r<=9000:=λk b d=>tA (b7s (by decide)) λ_ _=>tA (a1i b (by omega)) λw c=>tC (by rw[e9 (by omega) (by omega)];omega);refine tA (a1i (by omega) (by omega)) λm _=>tD (λ_=>h _ (by omega) (by omega)) λ_=>tD (λ_=>h _ (by omega) (by omega)) λ_=>tD (λ_=>h _ (by omega) (by omega)) λ_=>h _ (by omega) (by omega)
structure Wk(u:aQ):Prop where iss:0<=u.Issuer/\u.Issuer<3ver:1<=u.Version/\u.Version<=3kp:u.Kind=1/\u.Person=1/\u.Ref=0
def Wk2(fr t i:Int)(u:aQ):Prop:=(1<=i->0<=u.State/\u.State<3)/\(2<=i->u.Span=⟨fr,t⟩)/\(3<=i->0<=u.Seat/\u.Seat<3)/\(4<=i->1<=u.Share/\u.Share<=100)/\(5<=i->1<=u.Currency/\u.Currency<=3)/\(6<=i->0<=u.Amount/\u.Amount<3000000)
def l2v{i:Int}(a:0<=i)(b:i<6):(i=0/\b3c b1y i=some 83)\/(i=1/\b3c b1y i=some 80)\/(i=2/\b3c b1y i=some 84)\/(i=3/\b3c b1y i=some 72)\/(i=4/\b3c b1y i=some 67)\/(i=5/\b3c b1y i=some 65):=by
 have:i=0\/i=1\/i=2\/i=3\/i=4\/i=5:=by omega
 rcases this with rfl|rfl|rfl|rfl|rfl|rfl;.exact .inl ⟨rfl,rfl ⟩
 .exact .inr (.inl ⟨rfl,rfl ⟩)
 .exact .inr (.inr (.inl ⟨rfl,rfl ⟩))
 .exact .inr (.inr (.inr (.inl ⟨rfl,rfl ⟩)))
 .exact .inr (.inr (.inr (.inr (.inl ⟨rfl,rfl ⟩))))
 .exact .inr (.inr (.inr (.inr (.inr ⟨rfl,rfl ⟩))))
def l2t:((b1y.size:Nat):Int)=6:=rfl
def l2m(a:tN)(F:a.Kind=0)(A:a.Person=0):Tot (b1b a) λu=>Wk u/\∃n,1<=n/\n<=9000/\∃fr,21900<=fr/\fr<37900/\Wk2 fr (fr+n) 6 u:=by
 unfold b1b;refine tA (a1i (by omega) (by omega)) λK p=>tA (a1i (by omega) (by omega)) λH _=>tA (a1i (by omega) (by omega)) λC J=>?_;rw[F,A,show b7 0 4=some 0from by kernel_rfl,show b7 0 14=some 0from by kernel_rfl,qA,qA];refine tA (a1i (by omega) (by omega)) λd L=>tA (l2x _) λn o=>?_;have E:i64 (1+0)=1:=by decide
 rw[E,if_neg (by decide),if_neg (by decide),if_neg (by decide),b7k,e9 (n:=21900+d) (by omega) (by omega),e9 (n:=21900+d+n) (by omega) (by omega),e9 (n:=1+C) (by omega) (by omega)];unfold a31;dsimp only;rw[show u4 1=some b1y from by kernel_rfl,qA];refine Tot.mono (Q:=λu=>Wk u/\Wk2 (21900+d) (21900+d+n) 6 u) ?_ λu w=>⟨w.1,n,o.1,o.2,21900+d,by omega,by omega,w.2⟩;refine tO  (I:=λv=>0<=v.2.2.2/\v.2.2.2<=6/\Wk v.2.2.1/\Wk2 (21900+d) (21900+d+n) v.2.2.2 v.2.2.1) (μ:=λv=>(6-v.2.2.2).toNat) ⟨Int.le_refl _,by dsimp only;omega,⟨⟨p.1,p.2⟩,by dsimp only;omega,rfl,rfl,rfl⟩,by unfold Wk2;dsimp only;refine⟨?_,?_,?_,?_,?_,?_⟩<;>intro h<;>omega⟩ (by dsimp only;omega) ?_;rintro r⟨x,y,u,i⟩⟨m,G,⟨f,g,c⟩,b⟩t;dsimp only at m G f g c b t⊢;unfold b6j;dsimp only;rw[l2t];refine tD (λl=>?_) λl=>?_
 .simp only[decide_eq_true_eq]at l;have k:∀z:aQ,Wk z->Wk2 (21900+d) (21900+d+n) (i+1) z->Tot (r (x,y,z,i64 (i+1))) _:=λz D B=>by rw[a42 m (by omega)];exact t _ ⟨by dsimp only;omega,by dsimp only;omega,D,B⟩ (by dsimp only;omega)
  rcases l2v m l with⟨rfl,e⟩|⟨rfl,e⟩|⟨rfl,e⟩|⟨rfl,e⟩|⟨rfl,e⟩|⟨rfl,e⟩;all_goals rw[e,qA]
  .refine tA (a1i (by omega) (by omega)) λs j=>k _ ⟨f,g,c⟩ ?_;unfold Wk2;dsimp only;refine⟨λ_=>j,?_,?_,?_,?_,?_⟩<;>intro h<;>omega
  .refine k _ ⟨f,g,c⟩ ?_;unfold Wk2;dsimp only;refine⟨λ_=>b.1 (by omega),λ_=>rfl,?_,?_,?_,?_⟩<;>intro h<;>omega
  .refine tA (a1i (by omega) (by omega)) λs j=>?_;rw[c.1,if_neg (by decide),qA];refine k _ ⟨f,g,rfl,c.2⟩ ?_;unfold Wk2;dsimp only;refine⟨λ_=>b.1 (by omega),λ_=>b.2.1 (by omega),λ_=>j,?_,?_,?_⟩<;>intro h<;>omega
  .refine tA (a1i (by omega) (by omega)) λs j=>?_;rw[e9 (n:=1+s) (by omega) (by omega)];refine k _ ⟨f,g,c⟩ ?_;unfold Wk2;dsimp only;refine⟨λ_=>b.1 (by omega),λ_=>b.2.1 (by omega),λ_=>b.2.2.1 (by omega),λ_=>by omega,?_,?_⟩<;>intro h<;>omega
  .rw[if_neg (by decide),if_neg (by decide),if_neg (by decide),if_neg (by decide),if_pos (by decide)];refine tA (b4f (by decide)) λq _=>tA (a1i (by omega) (by omega)) λs j=>?_;rw[e9 (n:=1+s) (by omega) (by omega)];refine k _ ⟨f,g,c⟩ ?_;unfold Wk2;dsimp only;refine⟨λ_=>b.1 (by omega),λ_=>b.2.1 (by omega),λ_=>b.2.2.1 (by omega),λ_=>b.2.2.2.1 (by omega),λ_=>by omega,?_⟩;intro h;omega
  .refine tA (a1i (by omega) (by omega)) λs j=>?_;refine k _ ⟨f,g,c⟩ ?_;unfold Wk2;dsimp only;exact⟨λ_=>b.1 (by omega),λ_=>b.2.1 (by omega),λ_=>b.2.2.1 (by omega),λ_=>b.2.2.2.1 (by omega),λ_=>b.2.2.2.2.1 (by omega),λ_=>j⟩
 .simp only[decide_eq_true_eq]at l;have:i=6:=by omega
  subst this;exact tC ⟨⟨f,g,c⟩,b⟩
def aF:List aQ:=[(⟨0,1,1,false,1,1,0,(⟨30000,30010⟩:Span),0,100,1,500,0⟩:aQ)]
def aT:List Rules:=[(⟨0,0,0,0,[0]⟩:Rules)]
def aV:Version:=⟨0,(⟨1,1⟩:Rounding),[],[],[],[(⟨1,(⟨16,(⟨0,0⟩:fQ),0,a3j,[(⟨2,(⟨0,0⟩:fQ),0,b6u,[]⟩:Expr),(⟨1,(⟨5,1⟩:fQ),3,a3j,[]⟩:Expr)]⟩:Expr),(⟨1,(⟨77,1⟩:fQ),4,a3j,[]⟩:Expr)⟩:Grant)],[]⟩
def aB:bQ:=⟨⟨[⟨0,⟨c91,1,[aV]⟩⟩],aT,[]⟩,31000,⟨0,0,0,0,[0]⟩⟩
def aP:competence_Postings aF=some []:=by let ⟨P,b,a,_⟩:=c90 (⟨(List.forall_mem_singleton.2 (by kernel_rfl)),by decide,by decide⟩:a48 aF);rw[b];cases P with|nil=>rfl|cons p P=>
   have e:f3b aF p.Seat p.State=[]:=by kernel_rfl
   have c:p.Span∈d4o _ _:=(a p).1 (by simp);rw[e,List.length_eq_zero_iff.1 (Nat.le_zero.1 (b8o [] _ (by decide)).2.2.2)]at c;grind
def aLaw:a4h aF aT=some [(⟨(⟨30000,30010⟩:Span),0,3⟩:gQ)]:=by unfold a4h a9c;rw[aP];kernel_rfl
def aCn:List nQ:=[(⟨(⟨30000,30010⟩:Span),0,1⟩:nQ)]
def aCnt:a2z aB aF 0=some aCn:=by unfold a2z a0s lpC;rw[show a08 aB 0=some _ from rfl,qA,show FU=1180591620717411303422+1+1from rfl,d24];dsimp only;rw[if_pos (by decide),show c7 _ 0=some _ from rfl,qA];rw[show a08 aB 0=some _ from rfl,qA,show b1v _ _=some _ from rfl,qA,p6 (by decide),qA,d24];rw[show aB.laws.Treaty=aT from rfl,aLaw];kernel_rfl
def e4y:b2m=some true:=by show Option.bind (b47 aB.laws aF 0 1 _) _=_;unfold b47;rw[show b8v _ _=some (aB,0)from by kernel_rfl,qA];unfold a8d;rw[aCnt];kernel_rfl
def i6k(a:Int){n:Int}(b:1<=n)(e:n<=1000000):Tot (a40 a n) λr=>0<=r/\r<n:=by have d:=Int.tmod_lt_of_pos a b;have c:=Int.lt_tmod_of_pos a b;refine tD (λh=>by simp at h;omega) λ_=>?_;rw[d04 (by omega),qA,e9 (by omega) (by omega),d04 (by omega)];exact tC ⟨(Int.tmod_nonneg n (show 0<=a.tmod n+n by omega)),(Int.tmod_lt_of_pos _ b)⟩
def k8z{b:bQ}(h:LW b.laws){w:Int->Option Bool}{c:List nQ}(d:CW b w c):CO c:=by refine⟨d.1,λu g=>?_⟩;let ⟨j,s,f,e,_⟩:=d.2 u g;let ⟨i,a⟩:=mem_iff_getElem?.1 f;have k:=(qD.1 a).1;have m:=h.2.2.2.1 i s a;have l:=h.2.1;exact⟨j,by omega,by omega⟩
def l1h(n:Int)(h:n∈([83,84,72,67,65]:List Int)):j6 1 n=some true:=by simp [qO,List.not_mem_nil,or_false]at h;rcases h with rfl|rfl|rfl|rfl|rfl<;>kernel_rfl
def l35{u:aQ}(h:Wk u)(hn:u.Number=777){fr t:Int}(q:0<=fr/\fr<t/\t<=73049)(j:Wk2 fr t 6 u):vld u=true:=by
 let ⟨p,n,i,k,m⟩:=h;let ⟨s,l,r,o,w,v⟩:=j;unfold vld m8 a09;rw[i,k,m,hn,(l (by omega))];have e:∀a b:Int,b<=a->decide (a<b)=false:=λa b h=>by simp;omega
 have g:∀a b:Int,a<b->decide (a>=b)=false:=λa b h=>by simp;omega
 have f:∀a b:Int,a<=b->decide (a>b)=false:=λa b h=>by simp;omega
 have c:∀a b:Int,b<=a->decide _=true:=λa b h=>by simp;omega
 have d:∀a b:Int,a<=b->decide _=true:=λa b h=>by simp;omega
 simp only[e u.Issuer 0 (by omega),g u.Issuer 6 (by omega),e u.Version 1 (by omega),f u.Version 99 (by omega),e fr 0 (by omega),g fr t (by omega),f t 73049 (by omega),c u.State 0 (by omega),d u.State 5 (by omega),c u.Seat 0 (by omega),d u.Seat 5 (by omega),c u.Share 1 (by omega),d u.Share 100 (by omega),c u.Currency 1 (by omega),d u.Currency 999 (by omega),c u.Amount 0 (by omega),d u.Amount 1000000000 (by omega),l1h,show u4 1=some b1y from rfl,show j6 1 82=some _ from rfl,show(b1y.toList==a3j.toList)=false from by kernel_rfl,qA,if_true,if_false,qM,l1h 83 _,l1h 84 _,l1h 72 _,l1h 67 _,l1h 65 _];rfl
def l1k(l:List tN)(n:List Int)(r:tN)(q b:Int)(W:l.length<=9223372036854775807)(_:n.length<=9223372036854775807):l19 l n r q b=some true:=by
 obtain⟨r,hr,h⟩:Tot (l19 l n r q b) _:=by
  refine tD (λ_=>tC rfl) λhn=>?_;refine tA (Q:=LW) ?_ λx g=>tA (f2u l n true W (by omega)) λf⟨o,hf⟩=>tA (i6k _ (by omega) (by omega)) λv R=>tA (i6k _ (by omega) (by omega)) λk L=>tA (l2m _ rfl rfl) λu j=>?_;.exact tA (g3f (by omega)) λx g=>tC g
  obtain⟨j,m,m1,m2,fr,r1,r2,I⟩:=j;obtain⟨y,B,V⟩:=i6k r.From (n:=50) (by omega) (by omega);rw[B,qA,qA,e9 (n:=33000+v) (by omega) (by omega),e9 (n:=33000+v+y) (by omega) (by omega),show u.Span.To-u.Span.From=m by rw[(I.2.1 (by omega))];dsimp only;omega,e9 (n:=m) (by omega) (by omega),e9 (n:=33000+v+y+m) (by omega) (by omega)];obtain⟨b',S,P,e⟩:=k5i g (d:=33000+v) (by omega) (by omega);obtain⟨c,Z,F⟩:=k4y P o;obtain⟨t,Y,la,hT⟩:=k4r (k8z (e▸g) F) _;obtain⟨p,K,D,H⟩:=g9s g o _ (33000+v) _ λs _=>(k8i g o s.State _ (by omega) (by omega) S P Z Y).mono λa A=>A.1;generalize M:(⟨u.Issuer,777,u.Version,u.Withdrawn,u.Person,u.Kind,u.State,(⟨33000+v+y,33000+v+y+m⟩:Span),u.Seat,u.Share,u.Currency,u.Amount,u.Ref⟩:aQ)=z;have N:Late (33000+v) z:=by subst M;exact⟨j.kp.1,by dsimp only;omega,by dsimp only;omega⟩
  have R:vld z=true:=by subst M;exact l35 ⟨j.iss,j.ver,j.kp⟩ rfl   (by omega) ⟨I.1,λ_=>rfl,I.2.2⟩
  rw[K,qA,p6 (by simp;omega),qA,List.nil_append,p6 (by simp;omega),qA,l31 N (by omega) (by omega) o ⟨λw C=>(b4a C).elim (o.val w) λe=>e▸R,by simp;omega,by
   have G:[z].filter c30=[]:=List.filter_eq_nil_iff.2 λw C h=>by rw[qF.1 C]at h;unfold c30 at h;rw[N.kind]at h;cases h
   rw[filter_append,G,List.append_nil];exact o.pos⟩ g,K,qA,e4y,qA];have X:=g.2.1;have E:((p.length:Int)==0)=false:=by rw[D,X];rfl
  simp only[qU,qM,if_false,bne_self_eq_false,qA,E];refine tH p (λ(_:Unit)i=>(p,p,i)) (λ_ _=>True) (by omega) (λJ _ i y U B _ T=>?_) (λJ _ _=>?_) () trivial;.unfold l1a;rw[if_pos (o6 U)];obtain⟨a,A,L⟩:=H i _ (qG (by omega));rw[B]at A;cases A;simp only[e7 B,qA,d0r y L,qU,qM,if_false];exact T () trivial
  .unfold l1a;rw[if_neg (g9 _)];exact tC rfl
 simp_all
end Go.PL
