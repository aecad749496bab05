/- Texts of the proof, joined. -/
import Derived.Test.YtpiclagiijpbkaaGreatDoorP3
import Derived.RangeFuncNested
import Derived.RangeFuncBox
import Derived.RangeFuncLeaves
import Derived.Sort.Defs
import Derived.Lib.BitFns
import Derived.KernelRfl
import Derived.Laws.Cover3
import Derived.WideKeyMaps
import Derived.MapKept
import Derived.Carry
import Derived.WalkKit
import Derived.ProofKit
import Derived.OpenShut
import Derived.Deep.DeepHandedRow
import Derived.Lib.LaidTab
import Derived.LaidOnce
import Derived.LaidMore
set_option linter.defProp false
set_option linter.unusedVariables false
set_option linter.unusedSimpArgs false
set_option maxRecDepth 100000
open List
namespace Go.SX
open Go Go.PL
section
variable {P:Program} {U:Uni} {Φ:Phi U} {E:Env} {n:Nat}
def c1m(n:Nat)(a:O ResultVar):Bool:=a.all λr=>match r with|.tmp t=>decide (t<n)|.cell t _=>decide (t<n)
def c6y(b:Array A5):ResultVar->Sem A5|.tmp t=>pure (b.getD t undef)|.cell a t=>do loadVar t (<-asAddr (b.getD a undef))
def c85{b c:Type}{f:b->Sem c}{w:World}{p:b->c->Prop}:∀{l:O b},(∀x∈l,∃u,(f x).run P w=.ok u w/\p x u)->∃us,(l.mapM f).run P w=.ok us w/\y7 p l us|[],_=>⟨[],by simp,trivial⟩|x::l,h=>by let⟨u,j,e⟩:=h x (by simp);let⟨us,g,a⟩:=c85 (l:=l) λy i=>h y (by grind);refine⟨u::us,?_,e,a⟩;simp_all
def c9t{σ:U.St}:∀c:O ResultVar,FZ σ (g5q σ c)
 |[],a,m,h=>by cases h|.tmp t::c,a,m,h=>c9t c a m h|.cell t d::c,a,m,h=>by
   simp [g5q]at h;split at h
   .split at h
    .rcases qK.1 h with h|h;.exact d9u _ a m h
     .exact c9t c a m h
    .exact c9t c a m h
   .exact c9t c a m h
def f6r(x:UOK U){Z:Nat->Prop}{l:Nat->A5}{σ:U.St}{ρ:Nat->A5}{w:World}(h:Rel E Z l σ ρ w){g:ResultVar}(C:(match g with|.tmp t=>decide (t<n)|.cell t _=>decide (t<n))=true){a:U.AV}(d:f3d P σ g=some a):∃u,(c6y (Fr n ρ).tmps g).run P w=.ok u w/\AVR (cx Z l σ w) a u:=by
 cases g with|tmp t=>
   have e:t<n:=by simp_all
   cases d;refine⟨ρ t,?_,h.slot t⟩;simp[c6y,Frd,e]|cell t y=>
   have e:t<n:=by simp_all
   simp [f3d]at d;split at d
   .rename_i p i;split at d
    .rename_i B b f;split at d
     .rename_i o;have d:=qH d;rw[d]at o;have q:=h.slot t;rw[i]at q;have m:=h.mem p;rw[f]at m;let⟨j,z,A,v,r⟩:=m;let⟨u,s,c⟩:=e33 x o ⟨z,(by rw[<-d];exact f2k h r),v.ca⟩;refine⟨u,?_,AVR.of1 s⟩;have k:ρ t=.pointer (some ⟨j,0,none⟩):=by rw[show ρ t=l p from q.2.1];omega
      have c:(Instr.loadAt y _).run P w=.ok u w:=c;simp[c6y,Frd,e,k,asAddr,(by simpa[Instr.loadAt,Instr.sureAddr]using c)]
     simp_all
    simp_all
   simp_all
def d0d{fn:Func}{a:Array A5}{w:World}{us:O A5}(h:(fn.results.toList.mapM (c6y a)).run P w=.ok us w):(results fn a).run P w=.ok (g6p us) w:=by
 have e:results fn a=(do let b<-fn.results.mapM (c6y a)pure (if h:b.size=1then b[0]else .tuple b)):=by congr 1
 have c:(fn.results.mapM (c6y a)).run P w=.ok us.toArray w:=by rw[Array.mapM_eq_mapM_toList];simp[h]
 rw[e,Sem.run_bind,c];cases us with|nil=>rfl|cons u us=>cases us with|nil=>rfl|cons d us=>simp[g6p]
def h23(σ:U.St)(c:Nat->A5)(o:A3 Nat)(v:A5):Prop:=match o with|none=>hdV v=none|some a=>v=c a/\∀b,hdV v=some b->MB (σ.mem a) (c a) b
def d0i(hU:UOK U){Z:Nat->Prop}{T:Nat->A5}{σ:U.St}{ρ:Nat->A5}{w:World}(h:Rel E Z T σ ρ w):∀(J:O (RK U.C))(z:O ResultVar)(f:O Nat)(x:Ress U J)(d:O A5),e51 P σ f J z=some x->y7 (λr u=>∀a,f3d P σ r=some a->AVR (cx Z T σ w) a u) z d->∃(H:O (Nat×U.MC))(A:O (A3 Nat)),FZ σ H/\(∀q∈H,q.1∉f)/\y7 (h23 σ T) A (c59 J d)/\(∀id,some id∈A->id∉f/\∀q∈H,q.1≠id)/\(∀(i j:Nat)id,i≠j->A[i]?=some (some id)->A[j]?≠some (some id))/\∀Z',(∀b,Z b->Z' b)->(∀b,b50 σ T H b->Z' b)->RRs (cz Z' w) J x d
 |[],[],f,x,[],_,_=>⟨[],[],(λ_ _ h=>by grind),(λ_ h=>by grind),trivial,(λ_ h=>by grind),(λi j id _ h=>by grind),λ_ _ _=>trivial⟩|[],[],f,x,_::_,_,h=>h.elim|[],_::_,f,x,d,C,_=>by cases C|r::J,[],f,x,d,C,_=>by cases r<;>cases C|r::J,rv::z,f,x,[],_,h=>h.elim|.v c::J,rv::z,f,(x,xs),u::d,C,M=>by
   simp [e51]at C;split at C;.rename_i a ha;let⟨h1,h2⟩:=a2k C;let⟨H,A,g1,S,g3,V,g5,g6⟩:=d0i hU h J z f xs d h2 M.2;refine⟨H,A,g1,S,g3,V,g5,λZ' F B=>⟨?_,g6 Z' F B⟩⟩;exact b0h (a1w hU c x).1 (c3i hU h1 (a8m (d1m hU h1) (M.1 a ha))) rfl F
   simp_all|.ls c::J,rv::z,f,(x,xs),u::d,C,M=>by
   simp [e51]at C;split at C
   .rename_i a ha;split at C
    .rename_i x' Q g;let⟨h1,h2⟩:=a2k C;have L:=qH h1;subst L;let⟨H,A,g1,S,g3,V,g5,g6⟩:=d0i hU h J z Q xs d h2 M.2;have D:=M.1 a ha;have stay:Q=f->(∀Z',(∀b,Z b->Z' b)->k9 (Rp c) (cz Z' w).G w u x')->∃(H:O (Nat×U.MC))(A:O (A3 Nat)),FZ σ H/\(∀q∈H,q.1∉f)/\y7 (h23 σ T) A (c59 (.ls c::J) (u::d))/\(∀id,some id∈A->id∉f/\∀q∈H,q.1≠id)/\(∀(i j:Nat)id,i≠j->A[i]?=some (some id)->A[j]?≠some (some id))/\∀Z',(∀b,Z b->Z' b)->(∀b,b50 σ T H b->Z' b)->RRs (cz Z' w) (.ls c::J) (x',xs) (u::d):=by intro e hr;subst e;exact⟨H,A,g1,S,g3,V,g5,λZ' F B=>⟨hr Z' F,g6 Z' F B⟩⟩
     have wk:∀{l:O (U.T c)},k9 (Rp c) (cx Z T σ w).G w u l->∀Z',(∀b,Z b->Z' b)->k9 (Rp c) (cz Z' w).G w u l:=λhr Z' F=>k9.weaken hr λb _ B hz'=>B (F b hz');unfold resL at g;split at g
     .split at g;.rename_i l hc;let⟨he,L⟩:=a3i (G:=noG) (w:=w) hc;subst he;subst L;cases g;exact stay rfl (wk D)
      .cases g
     .cases g;exact stay rfl λZ' _=>.inl ⟨D,rfl⟩
     .rename_i id;have W:=h.mem id;split at g
      .rename_i e c' l' I o;split at g
       .rename_i l hc;let⟨he,L⟩:=a3i (G:=noG) (w:=w) hc;subst he;subst L;cases g;rw[o]at W;have s:id∉f:=λY=>by have:=List.any_eq_true.2 ⟨id,Y,Nat.beq_refl id⟩;rw[I]at this;cases this
        refine⟨(id,.fz c' x')::H,A,λi m hh=>?_,λq N=>?_,g3,λi p=>?_,g5,λZ' F B=>⟨?_,g6 Z' F λb⟨q,N,hb'⟩=>B b ⟨q,qJ _ N,hb'⟩⟩⟩
        .rcases qO.1 hh with y|y;.cases y;exact⟨e,c',x',o,rfl⟩
         .exact g1 i m y
        .rcases qO.1 N with y|y;.rw[y];omega
         .exactλh=>S q y (qJ _ h)
        .let⟨k1,k2⟩:=V i p;refine⟨λh=>k1 (qJ _ h),λq N=>?_⟩;rcases qO.1 N with y|y;.rw[y];exactλe2=>k1 (by rw[<-e2];exact qI)
         .exact k2 q y
        .rw[show u=T id from D.2.1];refine c0x (X:=cx Z T σ w) W F λb hb'=>B b ⟨_,qI,?_⟩;rw[o];let⟨css,hO,_⟩:=W;let⟨ad,cap,M,_⟩:=hO.shape;exact(a95 M).1 hb'
       .cases g
      .rename_i c' l' o;split at g;.rename_i l hc;let⟨he,L⟩:=a3i (G:=noG) (w:=w) hc;subst he;subst L;cases g;rw[o]at W;exact stay rfl (wk (by rw[show u=T id from D.2.1];exact W))
       .cases g
      .cases g
     .cases g
    simp_all
   simp_all|.ow e c::J,rv::z,f,(x,xs),u::d,C,M=>by
   simp [e51]at C;split at C
   .rename_i a ha;split at C
    .rename_i x' Q g;let⟨h1,h2⟩:=a2k C;have L:=qH h1;subst L;let⟨H,A,g1,S,g3,V,g5,g6⟩:=d0i hU h J z Q xs d h2 M.2;have D:=M.1 a ha;unfold resO at g;split at g
     .cases g;have R:=D;refine⟨H,none::A,g1,S,⟨by rw[R];rfl,g3⟩,λi p=>V i (by simpa using p),λi j id K p=>?_,λZ' F B=>⟨?_,g6 Z' F B⟩⟩;.cases i with|zero=>simp at p|succ i=>cases j with|zero=>simp|succ j=>exact g5 i j id (by omega) p
      .rw[R];exact⟨[],Own.nil _ _ _ _ _,trivial⟩
     .rename_i id;have W:=h.mem id;split at g
      .rename_i e' c' l' I o;split at g
       .rename_i l hbe hc;have hee:=qC hbe;subst hee;let⟨he,L⟩:=a3i (G:=noG) (w:=w) hc;subst he;subst L;cases g;have s:id∉f:=λY=>by have:=List.any_eq_true.2 ⟨id,Y,Nat.beq_refl id⟩;rw[I]at this;cases this
        have K:∀i,some i∈A->i≠id:=λi p y=>(V i p).1 (by rw[y];exact qI);have R:u=T id:=D.2.1;refine⟨H,some id::A,g1,λq N h=>S q N (qJ _ h),⟨⟨R,λb B=>?_⟩,g3⟩,λi p=>?_,λi j k hij p hj=>?_,λZ' F B=>⟨?_,g6 Z' F B⟩⟩;.rw[o,<-R];exact B
        .rcases qO.1 p with y|y;.cases y;exact⟨s,λq N e2=>S q N (by rw[e2];exact qI)⟩
         .let⟨k1,k2⟩:=V i y;exact⟨λh=>k1 (qJ _ h),k2⟩
        .cases i with
         |zero=>simp at p;cases j with|zero=>omega|succ j=>exact K k (qE hj) p.symm
         |succ i=>cases j with|zero=>simp at hj;exact K k (qE p) hj.symm|succ j=>exact g5 i j k (by omega) p hj
        .rw[o]at W;rw[R];let⟨css,hO,hr⟩:=W;exact⟨css,hO,hr.mono λr xv hh=>(Rp c').weaken hh λb _ B hz'=>B (F b hz')⟩
       .cases g
      .cases g
     .cases g
    simp_all
   simp_all|.bo t c::J,rv::z,f,(x,xs),u::d,C,M=>by
   simp [e51]at C;split at C;case h_2=>grind
   rename_i a ha;split at C;case h_2=>grind
   rename_i x' Q g;let⟨h1,h2⟩:=a2k C;have L:=qH h1;subst L;let⟨H,A,g1,S,g3,V,g5,g6⟩:=d0i hU h J z Q xs d h2 M.2;have D:=M.1 a ha;unfold resP at g;split at g;.cases g;have R:=D;refine⟨H,none::A,g1,S,⟨by rw[R];rfl,g3⟩,λi p=>V i (by simpa using p),λi j id K p=>?_,λZ' F B=>⟨R,g6 Z' F B⟩⟩;cases i with|zero=>simp at p|succ i=>cases j with|zero=>simp|succ j=>exact g5 i j id (by omega) p
   .rename_i id;have W:=h.mem id;split at g;case h_2=>cases g
    rename_i t' b I o;split at g;case h_2=>cases g
    rename_i xv hbe hp;have hee:=qC hbe;subst hee;cases g;have s:id∉f:=λY=>by have:=List.any_eq_true.2 ⟨id,Y,Nat.beq_refl id⟩;rw[I]at this;cases this
    have K:∀i,some i∈A->i≠id:=λi p y=>(V i p).1 (by rw[y];exact qI);have R:u=T id:=D.2.1;refine⟨H,some id::A,g1,λq N h=>S q N (qJ _ h),⟨⟨R,λb B=>?_⟩,g3⟩,λi p=>?_,λi j k hij p hj=>?_,λZ' F B=>⟨?_,g6 Z' F B⟩⟩;.rw[o,<-R];exact B
    .rcases qO.1 p with y|y;.cases y;exact⟨s,λq N e2=>S q N (by rw[e2];exact qI)⟩
     .let⟨k1,k2⟩:=V i y;exact⟨λh=>k1 (qJ _ h),k2⟩
    .cases i with
     |zero=>simp at p;cases j with|zero=>omega|succ j=>exact K k (qE hj) p.symm
     |succ i=>cases j with|zero=>simp at hj;exact K k (qE p) hj.symm|succ j=>exact g5 i j k (by omega) p hj
    .rw[o]at W;let⟨blk,u1,hv1,hM,hr⟩:=W;exact⟨blk,u1,by rw[R];omega,hM,b0h (a1w hU c xv).1 (c3i hU hp hr) rfl F⟩
   .cases g
def c8q:∀(ps:O (PK U.C))(k i:Nat),i∈ioI k ps↔k<=i/\c0f ps (i-k)
 |[],k,i=>by simp[ioI,c0f]|p::ps,k,i=>by
   have d:=c8q ps (k+1) i;have e:k+1<=i->(c0f (p::ps) (i-k)↔c0f ps (i-(k+1))):=λf=>by rw[show i-k=(i-(k+1))+1by omega];simp[c0f]
   by_cases a:i=k
   .subst a;have b:i∉ioI (i+1) ps:=λh=>by grind
    cases p<;>simp[ioI,c0f,b]
   .cases p<;>simp [ioI,qO,a,false_or]<;>rw[d]<;>(grind)
def b4z(σ:U.St)(e:Nat->A5):O (PK U.C)->O A5->O A5|.po b f _ _::d,u::a=>(match e6y σ b f with|some j=>e j|none=>u)::b4z σ e d a|_::d,u::a=>u::b4z σ e d a|_,a=>a
def d1s(σ:U.St)(a:Nat->A5):∀(ps:O (PK U.C))(us:O A5),(b4z σ a ps us).length=us.length|[],us=>by cases us<;>rfl|p::ps,[]=>by cases p<;>rfl|p::ps,u::us=>by cases p<;>simp[b4z,d1s σ a ps us]
def c8n(σ:U.St)(c:Nat->A5):∀(ps:O (PK U.C))(us:O A5)(i:Nat)(p:PK U.C),ps[i]?=some p->d4j p=false->(b4z σ c ps us)[i]?=us[i]?
 |[],us,i,p,h,_=>by grind|a::ps,[],i,p,h,_=>by cases a<;>rfl|a::ps,u::us,0,p,h,b=>by simp at h;subst h;cases a<;>first|rfl|cases b
 |a::ps,u::us,i+1,p,h,b=>by have:=c8n σ c ps us i p (by simp_all) b;cases a<;>simpa[b4z]using this
def d6i(σ:U.St)(g:Nat->A5):∀(ps:O (PK U.C))(us:O A5)(i b f j:Nat)(e:TypeId)(c:U.C),ps[i]?=some (.po b f e c)->i<us.length->e6y σ b f=some j->(b4z σ g ps us)[i]?=some (g j)|[],us,i,b,f,j,e,c,h,_,_=>by grind|d::ps,[],i,b,f,j,e,c,h,k,_=>by simp_all|d::ps,u::us,0,b,f,j,e,c,h,_,a=>by simp at h;subst h;simp[b4z,a]|d::ps,u::us,i+1,b,f,j,e,c,h,k,a=>by have:=d6i σ g ps us i b f j e c (by simp_all) (by simp_all) a;cases d<;>simpa[b4z]using this
def e7x{σ:U.St}:∀(ps:O (PK U.C))(k:Nat)(os:Outs U ps),c7d σ k ps=some os->∀(i b f:Nat)(e:TypeId)(c:U.C),ps[i]?=some (.po b f e c)->∃j,e6y σ b f=some j
 |[],k,os,_,i,b,f,e,c,h=>by grind|p::ps,k,os,d,i,b,f,e,c,h=>by
   have a:∀l,c7d σ (k+1) ps=some l->0<i->∃j,e6y σ b f=some j:=λl r y=>e7x ps _ l r (i-1) b f e c (by rw[show i=(i-1)+1by omega]at h;simp_all);have g:d4j p=false->0<i:=λu=>by
    rcases Nat.eq_zero_or_pos i with q|q;.subst q;simp at h;subst h;cases u
    omega
   cases p with
   |v c=>exact a os d (g rfl)|ls c=>exact a os d (g rfl)|ow e c=>exact a os d (g rfl)|rp t c=>exact a os d (g rfl)|cl f B=>exact a os d (g rfl)|bn f c=>exact a os d (g rfl)|km f t=>exact a os d (g rfl)|vl f t c=>exact a os d (g rfl)|io t c=>
     let⟨o,os⟩:=os;simp [c7d]at d;split at d
     .split at d;.exact a os (a2k d).2 (g rfl)
      simp_all
     simp_all|so e c=>
     let⟨o,os⟩:=os;simp [c7d]at d;split at d
     .split at d;.exact a os (a2k d).2 (g rfl)
      simp_all
     simp_all|im t c m=>
     let⟨o,os⟩:=os;simp [c7d]at d;split at d
     .split at d;.exact a os (a2k d).2 (g rfl)
      simp_all
     simp_all|po z A x w=>
     let⟨o,os⟩:=os;simp [c7d]at d;split at d;case h_2=>grind
     split at d;case h_2=>grind
     split at d;case h_2=>grind
     rcases Nat.eq_zero_or_pos i with q|q;.simp_all
     .exact a os (a2k d).2 q
def b3j(K:UOK U){Z:Nat->Prop}{L:Nat->A5}{σ:U.St}{ρ:Nat->A5}{w:World}(h:Rel E Z L σ ρ w):∀(ps:O (PK U.C))(k:Nat)(os:Outs U ps)(us:O A5),c7d σ k ps=some os->us.length=ps.length->(∀(j:Nat)v,us[j]?=some v->(k+j)∈ioI k ps->L (k+j)=v)->(∀X':Cx,(∀b,Z b->X'.Z b)->X'.w=w->(∀(i:Nat)t c m,ps[i]?=some (.im t c m)->∀q∈m,∃j,e6y σ (k+i) q.1=some j/\X'.us q.2/\X'.π q.2=L j)->OR X' ps os (b4z σ L ps us))/\y7 (λid v=>v=L id/\∀b,hdV v=some b->MB (σ.mem id) (L id) b) (ioP σ k ps) (ioB ps (b4z σ L ps us))
 |[],k,os,[],_,_,_=>⟨λ_ _ _ _=>trivial,trivial⟩|[],k,os,_::_,_,hl,_=>by simp_all|_::_,k,os,[],_,hl,_=>by simp_all|p::ps,k,os,u::us,g,hl,R=>by
   have d:∀(j:Nat)v,us[j]?=some v->(k+1+j)∈ioI (k+1) ps->L (k+1+j)=v:=λj v hv s=>by have:=R (j+1) v (by simp_all);rw[show k+(j+1)=k+1+j by omega]at this;refine this ?_;cases p<;>simp[ioI,s]
   have A:us.length=ps.length:=by simp_all
   have B:∀{X':Cx},(∀(i:Nat)t c m,(p::ps)[i]?=some (.im t c m)->∀q∈m,∃j,e6y σ (k+i) q.1=some j/\X'.us q.2/\X'.π q.2=L j)->∀(i:Nat)t c m,ps[i]?=some (.im t c m)->∀q∈m,∃j,e6y σ (k+1+i) q.1=some j/\X'.us q.2/\X'.π q.2=L j:=λs i t c m hp q hq=>by have:=s (i+1) t c m (by simpa using hp) q hq;rwa[show k+(i+1)=k+1+i by omega]at this
   cases p with
   |v c=>let⟨C,D⟩:=b3j K h ps (k+1) os us g A d;exact⟨λX' z y s=>C X' z y (B s),D⟩|ls c=>let⟨C,D⟩:=b3j K h ps (k+1) os us g A d;exact⟨λX' z y s=>C X' z y (B s),D⟩|ow e c=>let⟨C,D⟩:=b3j K h ps (k+1) os us g A d;exact⟨λX' z y s=>C X' z y (B s),D⟩|rp t c=>let⟨C,D⟩:=b3j K h ps (k+1) os us g A d;exact⟨λX' z y s=>C X' z y (B s),D⟩|cl f cs=>let⟨C,D⟩:=b3j K h ps (k+1) os us g A d;exact⟨λX' z y s=>C X' z y (B s),D⟩|bn f c=>let⟨C,D⟩:=b3j K h ps (k+1) os us g A d;exact⟨λX' z y s=>C X' z y (B s),D⟩|km f t=>let⟨C,D⟩:=b3j K h ps (k+1) os us g A d;exact⟨λX' z y s=>C X' z y (B s),D⟩|vl f t c=>let⟨C,D⟩:=b3j K h ps (k+1) os us g A d;exact⟨λX' z y s=>C X' z y (B s),D⟩|io t c=>
     let⟨o,os⟩:=os;simp [c7d]at g;split at g
     .rename_i t' b a;split at g
      .rename_i H;have J:=qC H;subst J;let⟨S,T⟩:=a2k g;let⟨C,D⟩:=b3j K h ps (k+1) os us T A d;have Q:L k=u:=R 0 u rfl (by simp[ioI]);have s:=h.mem k;rw[a]at s;let⟨W,u1,hv,hM,X⟩:=s;refine⟨λX' z y I=>⟨⟨W,u1,by rw[<-Q];omega,by rw[y];exact hM,?_⟩,C X' z y (B I)⟩,⟨Q.symm,λbb M=>?_⟩,D⟩;.exact b0h (a1w K c o).1 (c3i K S X) y z
       .rw[a,Q];exact M
      .cases g
     .cases g|im t c m=>
     let⟨o,os⟩:=os;simp [c7d]at g;split at g
     .rename_i t' c' fs a;split at g
      .rename_i H;simp only[qB]at H;have J:=qC H.1;subst J;have hcc:=c0a H.2;subst hcc;let⟨S,T⟩:=a2k g;let⟨C,D⟩:=b3j K h ps (k+1) os us T A d;have Q:L k=u:=R 0 u rfl (by simp[ioI]);have s:=h.mem k;rw[a]at s;let⟨W,u1,hv,hM,N,hu1,Y,hpp,X⟩:=s;refine⟨λX' z y I=>⟨?_,C X' z y (B I)⟩,⟨Q.symm,λbb M=>?_⟩,D⟩
       .let⟨k1,k2,k3⟩:=d37 K Y hpp X S y z λj jd hj=>by
         let⟨i,hi,hus,hpi⟩:=I 0 t c m rfl (j,jd) hj;exact⟨i,c1y (by
          have:e6y σ (k+0) j=c71 fs j:=by simp[e6y,a]
          rw[<-this];omega),hus,hpi⟩
        exact⟨W,u1,by rw[<-Q];omega,by rw[y];exact hM,N,hu1,k1,k2,k3⟩
       .rw[a,Q];exact M
      .cases g
     .cases g|so e0 c0=>
     obtain⟨o,os⟩:=os;simp [c7d]at g;split at g;case h_2=>cases g
     rename_i e' c' l a;split at g;case h_2=>cases g
     rename_i H;have J:=qC H;subst J;let⟨S,T⟩:=a2k g;let⟨he,hx⟩:=a3i (G:=noG) (w:=w) S;subst he;subst hx;let⟨C,D⟩:=b3j K h ps (k+1) os us T A d;have Q:L k=u:=R 0 u rfl (by simp[ioI]);have s:=h.mem k;rw[a]at s;refine⟨λX' z y I=>⟨?_,C X' z y (B I)⟩,⟨Q.symm,λbb M=>by rw[a,Q];exact M⟩,D⟩;let⟨N,hO,X⟩:=s;refine⟨N,by rw[<-Q,y];exact hO,X.mono λr x hh=>?_⟩;rw[y];exact(Rp _).weaken hh λb _ M V=>M (z b V)|po b0 f0 e0 c0=>
     obtain⟨o,os⟩:=os;simp [c7d]at g;split at g;case h_2=>cases g
     rename_i j hj;split at g;case h_2=>cases g
     rename_i e' c' l a;split at g;case h_2=>cases g
     rename_i H;have J:=qC H;subst J;let⟨S,T⟩:=a2k g;let⟨he,hx⟩:=a3i (G:=noG) (w:=w) S;subst he;subst hx;let⟨C,D⟩:=b3j K h ps (k+1) os us T A d;have s:=h.mem j;rw[a]at s;simp only[b4z,ioP,hj];refine⟨λX' z y I=>⟨?_,C X' z y (B I)⟩,⟨rfl,λbb M=>by rw[a];exact M⟩,D⟩;let⟨N,hO,X⟩:=s;refine⟨N,by rw[y];exact hO,X.mono λr x hh=>?_⟩;rw[y];exact(Rp _).weaken hh λb _ M V=>M (z b V)
def e2b{a:O (PK U.C)}:∀(ps:O (PK U.C))(k:Nat),c2u a k ps=true->∀(i:Nat)t c m q,ps[i]?=some (.im t c m)->q∈m->∃e d,a[q.2]?=some (.po (k+i) q.1 e d)
 |[],k,_,i,t,c,m,q,h,_=>by grind|r::ps,k,h,i,t,c,m,q,l,o=>by
   have g:c2u a (k+1) ps=true:=by cases r<;>first|exact h|(simp [c2u,qB]at h;grind)
   cases i with
   |zero=>
     simp at l;subst l;simp only[c2u,qB]at h;have j:=qX.1 h.1 q o;split at j;.rename_i b f e d p;simp only[qB]at j;have u:=qC j.1;have v:=qC j.2;exact⟨e,d,by grind⟩
     grind|succ i=>let⟨e,d,p⟩:=e2b ps _ g i t c m q (by simp_all) o;exact⟨e,d,by grind⟩
def e9t(hU:UOK U){s:Sig U}{w0:World}{G Z0:Nat->Prop}{us:O A5}(W:us.length=s.ps.length)(hmi:c2u s.ps 0 s.ps=true){Z:Nat->Prop}{C:Nat->A5}{σ:U.St}{ρ:Nat->A5}{w:World}(h:Rel ⟨w0,G,Z0,c0f s.ps,c7a us⟩ Z C σ ρ w){fn:Func}(hc:c1m n fn.results.toList=true){r:Ress U s.rs×Outs U s.ps}(hr:h2z P s fn.results.toList σ=some r):∃v,(results fn (Fr n ρ).tmps).run P w=.ok v w/\Post s Z0 G w0 us r v w:=by
 unfold h2z at hr;split at hr;case h_2=>grind
 rename_i hnd;split at hr;case h_2=>grind
 rename_i x R;split at hr;case h_2=>grind
 rename_i os hos;cases hr;have Y:∀(rs:O (RK U.C))(y:O ResultVar)(us0:O Nat)(x:Ress U rs),e51 P σ us0 rs y=some x->∀rv∈y,∃a,f3d P σ rv=some a:=by intro rs;induction rs with
  |nil=>intro y us0 x H rv M;cases y with|nil=>grind|cons _ _=>cases H
  |cons r rs ih=>intro y us0 x H rv M;cases y with|nil=>grind|cons rv0 y=>
      let⟨x0,xs⟩:=x;have hh:(∃a,f3d P σ rv0=some a)/\∃us',e51 P σ us' rs y=some xs:=by
       cases r<;>simp [e51]at H<;>split at H<;>try(cases H)
       .rename_i a K;exact⟨⟨a,K⟩,_,(a2k H).2⟩
       .rename_i a K;split at H;.exact⟨⟨a,K⟩,_,(a2k H).2⟩
        simp_all
       .rename_i a K;split at H;.exact⟨⟨a,K⟩,_,(a2k H).2⟩
        simp_all
       .rename_i a K;split at H;.exact⟨⟨a,K⟩,_,(a2k H).2⟩
        simp_all
      rcases qO.1 M with e|e;.simp_all
      .let⟨us',hd'⟩:=hh.2;exact ih y us' xs hd' rv e
 let⟨F,hrun,hvals⟩:=c85 (P:=P) (f:=c6y (Fr n ρ).tmps) (w:=w) (p:=λr u=>∀a,f3d P σ r=some a->AVR (cx Z C σ w) a u) (l:=fn.results.toList) λrv M=>by let⟨a,K⟩:=Y _ _ _ _ R rv M;let⟨u,hu,hau⟩:=f6r hU h (qX.1 hc rv M) K;simp_all
 refine⟨g6p F,d0d hrun,?_⟩;let⟨fz,ow,g1,g2,g3,g4,g5,g6⟩:=d0i hU h s.rs _ _ x F R hvals;let⟨o1,o2⟩:=b3j hU h s.ps 0 os us hos W (λj v S hm=>by have:=(h.pin (0+j) (by have:=(c8q s.ps 0 (0+j)).1 hm;simpa using this.2)).2;rw[this,Nat.zero_add];show us.getD j undef=v;simp[S]);have hnfz:∀b,∀g,MB (σ.mem g) (C g) b->(∀q∈fz,q.1≠g)->¬(Z b\/b50 σ C fz b):=by
  rintro b g d hq(hz|⟨q,hqm,hqb⟩);.exact(h.own g b d).1 hz
  .exact h.dist q.1 g b (hq q hqm) hqb d
 have o1':=o1 (czO (λb=>Z b\/b50 σ C fz b) s.ps _ w) (λb d=>.inl d) rfl (by intro i t c m hp q hq;let⟨e,c',R⟩:=e2b s.ps 0 hmi i t c m q hp hq;let⟨j,A⟩:=e7x s.ps 0 os hos q.2 (0+i) q.1 e c' R;refine⟨j,A,⟨_,R,rfl⟩,?_⟩;have h9:=d6i σ C s.ps us q.2 (0+i) q.1 j e c' R (by rw[W];exact(qD.1 R).1) A;show(b4z σ C s.ps us).getD q.2 undef=C j;simp[getD_eq_getElem?_getD,h9]);have Q:=c8n σ C s.ps us;have I:=d1s σ C s.ps us;generalize b4z σ C s.ps us=ua at o1' o2 Q I;have hnd2:∀(l:O Nat),c6j l=true->∀(i j a:Nat),i≠j->l[i]?=some a->l[j]?≠some a:=by intro l;induction l with|nil=>intro _ i j a _ h;simp at h|cons q l ih=>intro hn i j a V D A;let⟨n1,n2⟩:=b1j hn;cases i with
    |zero=>cases j with|zero=>omega|succ j=>rw[<-D]at A;exact n1 (qE A)
    |succ i=>cases j with|zero=>rw[<-A]at D;exact n1 (qE D)|succ j=>exact ih n2 i j a (by omega) (by simpa using D) (by simpa using A)
 have hall:∃L:O (A3 Nat),y7 (h23 σ C) L (c59 s.rs F++ioB s.ps ua)/\(∀g,some g∈L->∀q∈fz,q.1≠g)/\∀(i j:Nat)g,i≠j->L[i]?=some (some g)->L[j]?≠some (some g):=by
  refine⟨ow++(ioP σ 0 s.ps).map some,a87 g3 ?_,λg hid=>?_,λi j g V D A=>?_⟩
  .have key:∀(l:O Nat)(X:O A5),y7 (λg v=>v=C g/\∀b,hdV v=some b->MB (σ.mem g) (C g) b) l X->y7 (h23 σ C) (l.map some) X:=by intro l;induction l with
    |nil=>intro X S;cases X with|nil=>trivial|cons _ _=>exact S.elim
    |cons i l ih=>intro X S;cases X with|nil=>exact S.elim|cons v X=>exact⟨S.1,ih X S.2⟩
   exact key _ _ o2
  .rcases qK.1 hid with T|T;.exact(g4 g T).2
   .let⟨i,D,he⟩:=List.mem_map.1 T;cases he;intro q hq e;exact g2 q hq (by rw[e];omega)
  .have N:∀(a b:Nat),ow[a]?=some (some g)->(ioP σ 0 s.ps)[b]?=some g->False:=by intro a b K d;exact(g4 g (qE K)).1 (qE d)
   have z:∀(b:Nat),((ioP σ 0 s.ps).map some)[b]?=some (some g)->(ioP σ 0 s.ps)[b]?=some g:=by intro b d;rw[getElem?_map]at d;cases R:(ioP σ 0 s.ps)[b]?with|none=>rw[R]at d;cases d|some q=>rw[R]at d;simp at d;rw[d]
   rcases p5 D with⟨_,D⟩|⟨hi0,D⟩<;>rcases p5 A with⟨_,A⟩|⟨hj0,A⟩;.exact g5 i j g V D A
   .exact N _ _ D (z _ A)
   .exact N _ _ A (z _ D)
   .exact hnd2 _ hnd _ _ g (by omega) (z _ D) (z _ A)
 let⟨L,i1,i2,i3⟩:=hall;refine⟨λb=>Z b\/b50 σ C fz b,F,ua,rfl,λb d=>.inl (h.zout b d),λb d=>?_,h.ext,I,Q,g6 _ (λb d=>.inl d) (λb d=>.inr d),o1',λv S b d=>?_,λi j v v' b V D A d hb'=>?_⟩
 .rcases d with d|⟨q,hq,d⟩
  .rcases h.zin b d with T|T|T;.exact .inl T
   .exact .inr (.inl T)
   .exact .inr (.inr ⟨T,h.zlt b d⟩)
  .let⟨_,h2,h3⟩:=h.own q.1 b d;rcases h3 with h3|h3;.exact .inr (.inl h3)
   .exact .inr (.inr ⟨h3,h2⟩)
 .let⟨k,hk⟩:=getElem?_of_mem S;let⟨o,ho,B⟩:=i1.getR hk;cases o with|none=>rw[B]at d;cases d|some g=>let⟨e1,e2⟩:=B;have hMB:=e2 b d;let⟨_,h2,h3⟩:=h.own g b hMB;exact⟨hnfz b g hMB (i2 g (qE ho)),h2,h3⟩
 .let⟨o,ho,B⟩:=i1.getR D;let⟨o',ho',J⟩:=i1.getR A;cases o with|none=>rw[B]at d;cases d|some g=>cases o' with|none=>rw[J]at hb';cases hb'|some id'=>exact h.dist g id' b (λe=>i3 i j g V ho (by rw[e];omega)) (B.2 b d) (J.2 b hb')
def c2g(g:UOK U){s:Sig U}{d:World}{G c:Nat->Prop}{us:O A5}(a:us.length=s.ps.length)(b:c2u s.ps 0 s.ps=true){Z:Nat->Prop}{i:Nat->A5}{σ:U.St}{ρ:Nat->A5}{w:World}(h:Rel ⟨d,G,c,c0f s.ps,c7a us⟩ Z i σ ρ w){fn:Func}(f:c1m n fn.results.toList=true){r:Ress U s.rs×Outs U s.ps}(e:e61 P s fn.results.toList σ=some r):∃v,(results fn (Fr n ρ).tmps).run P w=.ok v w/\Post s c G d us r v w:=e9t g a b (h.freeze (c9t _)) f e
def g4r(q:UOK U)(r:OKΦ P Φ)(A:P.follows .mixedOrders=true){f:FuncId}{fn:Func}{c:Code}{fe:Fent U}(o:Ress U fe.s.rs×Outs U fe.s.ps->fe.B)(t:Ann U.C)(F:P.funcs[f]?=some fn)(v:fn.body=some c)(k:(a3z fn.ntmps c&&c1m fn.ntmps fn.results.toList&&(decide (npK fe.s.ps<=fn.ntmps)&&b4o fe.s.ps))=true)(B:∀p,fe.wr (o p)=p)(C:∀x b,fe.F x=some b->c5v P Φ fe.s o fn t x=some b):Spec P f fe:=by
 intro J b K Z G w H e D;simp [qB,decide_eq_true_eq]at k;have j:c2u fe.s.ps 0 fe.s.ps=true:=by have I:=k.2.2;unfold b4o at I;simp_all
 have m:=C J b K;unfold c5v at m;rw[v]at m;have d:∀{g:U.St},unK o (e61 P _ fn.results.toList g)=some b->e61 P _ fn.results.toList g=some (fe.wr b):=λ{g}h=>by
  unfold unK at h;split at h;.cases h;simp_all
  simp_all
 refine(Calls.of_WP F v rfl (by rw[length_take];omega) ?_);refine a6v q r A c t _ _ b k.1.1 m _ (λi=>?_) (λ_=>False) (c7a (H.take (npK fe.s.ps))) _ (λ_ h=>h.elim) ⟨λg y u z s _ a l=>?_,(λi g y u z s _ a l=>by grind),λg y u z s _ a l=>?_⟩ Z _ _ w (λ_ h=>h.elim) D;.have:=c8q fe.s.ps 0 i;simp_all
 .exact c2g q e j a k.1.2 (d l)
 .exact c2g q e j a k.1.2 (d l)
end
section
variable {U:Uni}
def d0t:Obj->Bool|.loop _|.deferred _=>true|.mapIter _ _ a _=>!a.isEmpty|_=>false
section
variable {G:Nat -> Prop} {w:World} {l:Nat} {o o':Obj}
def g5f(d:w.heap[l]?=some o)(c:d0t o=true){a:Addr}{v:A5}(h:w.cell? a=some v):(w.putObj l o').cell? a=some v:=by
 have b:a.block≠l:=by intro e;unfold World.cell? at h;rw[e,d]at h;cases o<;>first|(cases h)|(cases c)
 unfold World.cell? at h⊢;rw[World.putObj_heap_other b];omega
def g5t(d:w.heap[l]?=some o)(b:d0t o=true){a:Addr}{cs:O A5}(h:CA w a cs):CA (w.putObj l o') a cs:=λj v c=>g5f d b (h j v c)
def c7t(d:w.heap[l]?=some o)(a:d0t o=true){b:Nat}{q:Obj}(c:w.heap[b]?=some q)(hn:d0t q=false):(w.putObj l o').heap[b]?=some q:=by
 rw[World.putObj_heap_other (λe=>by simp_all)];omega
def c57{d:Type}{R:TyR d}(g:w.heap[l]?=some o)(j:d0t o=true)(r:∀cs x,R.rep G w cs x->R.rep G (w.putObj l o') cs x){v:A5}{e:O d}(h:k9 R G w v e):k9 R G (w.putObj l o') v e:=by
 rcases h with h|⟨a,b,f,p,s,n⟩;.exact .inl h
 .refine .inr ⟨a,b,f,p,s,λi x k=>?_⟩;let⟨cs,m,t,q,c⟩:=n i x k;exact⟨cs,r _ _ m,by rw[World.putObj_size];omega,q,g5t g j c⟩
def d5d{R:∀c,TyR (U.T c)}(g:w.heap[l]?=some o)(b:d0t o=true)(f:∀c cs x,(R c).rep G w cs x->(R c).rep G (w.putObj l o') cs x){a:U.AV}{cs:O A5}(h:a0z R G w a cs):a0z R G (w.putObj l o') a cs:=by cases a<;>simp [a0z]at*<;>first|omega|simp_all|(let⟨v,e,d⟩:=h;exact⟨v,e,c57 g b (f _) d⟩)
def c8h{R:∀c,TyR (U.T c)}(i:w.heap[l]?=some o)(b:d0t o=true)(e:∀c cs x,(R c).rep G w cs x->(R c).rep G (w.putObj l o') cs x){a:U.AV}{cs:O A5}(h:e8 R G w a cs):e8 R G (w.putObj l o') a cs:=by cases a<;>simp [e8]at*<;>first|omega|exact e _ _ _ h|(let⟨v,j,d⟩:=h;exact⟨v,j,c57 i b (e _) d⟩)|(let⟨m,f,n,p,k,g,d⟩:=h;exact⟨m,f,n,by simp_all,k,g5t i b g,d5d i b e d⟩)
def g70(e:w.heap[l]?=some o)(b:d0t o=true):∀(d:Nat)(c:U.C)(cs:O A5)(x:U.T c),(Rd d c).rep G w cs x->(Rd d c).rep G (w.putObj l o') cs x|0,c,cs,x,h=>h.elim|d+1,c,cs,x,h=>by let⟨i,a,g,j⟩:=h;exact⟨i,a,g,j.mono λ_ _ f=>c8h e b (g70 e b d) f⟩
def e5p(b:w.heap[l]?=some o)(a:d0t o=true)(c:U.C)(cs:O A5)(x:U.T c):(Rp c).rep G w cs x->(Rp c).rep G (w.putObj l o') cs x:=λ⟨d,h⟩=>⟨d,g70 b a d c cs x h⟩
end
section
variable {X:Cx} {l:Nat} {o o':Obj}
def Cx.pu(X:Cx)(l:Nat)(o':Obj):Cx:=⟨X.Z,X.π,X.us,X.w.putObj l o'⟩
def e77(d:X.w.heap[l]?=some o)(e:d0t o=true){a:U.AV}{v:A5}(g:b79 X a v):b79 (X.pu l o') a v:=by cases a<;>simp only[b79]at*<;>first|exact g|(let⟨h,f,i⟩:=g;exact⟨h,f,e5p d e _ _ _ i⟩)|exact c57 d e (e5p d e _) g|(let⟨k,h,f,x,p,m,i⟩:=g;exact⟨k,h,f,by show k.block<(X.w.putObj l o').heap.size;simp_all,p,g5t d e m,c8h d e (e5p d e) i⟩)|(let⟨b,j,s,c,f,⟨u,t⟩,⟨w,r⟩,n,q⟩:=g;exact⟨b,j,s,c,f,⟨by show b<(X.w.putObj l o').heap.size;simp_all,t⟩,⟨by show j<(X.w.putObj l o').heap.size;simp_all,r⟩,c7t d e n rfl,c7t d e q rfl⟩)
def d3j(f:X.w.heap[l]?=some o)(e:d0t o=true){a:U.AV}{v:A5}(b:a1p X a v):a1p (X.pu l o') a v:=by
 cases a;case st c n=>let⟨d,m,k,i,h⟩:=b;exact⟨d,m,k,i,h.mono λ_ _⟨u,j,g⟩=>⟨u,j,e77 f e g⟩⟩
 all_goals simp [a1p]at b⊢;exact e77 f e b
def g4h{w:World}{b:Nat}{t:TypeId}{cs:O A5}(c:w.heap[l]?=some o)(a:d0t o=true)(h:Mb w b t cs):Mb (w.putObj l o') b t cs:=c7t c a h rfl
def g0f(c:X.w.heap[l]?=some o)(b:d0t o=true){a:U.AV}{v:A5}(f:AVR X a v):AVR (X.pu l o') a v:=by cases a<;>simp only[AVR]at*<;>first|exact d3j c b f|(let⟨n,d,h⟩:=f;exact⟨n,d,h.mono λ_ _ p=>d3j c b p⟩)|(let⟨u,d,h⟩:=f;exact⟨u,d,d3j c b h⟩)|(let⟨e,k,d,⟨r,j⟩,⟨t,m⟩,g,i,s⟩:=f;exact⟨e,k,d,⟨by show e<(X.w.putObj l o').heap.size;simp_all,j⟩,⟨by show k<(X.w.putObj l o').heap.size;simp_all,m⟩,g4h c b g,i,c7t c b s rfl⟩)|(let⟨e,q,d,⟨r,j⟩,g,i⟩:=f;exact⟨e,q,d,⟨by show e<(X.w.putObj l o').heap.size;simp_all,j⟩,g4h c b g,c57 c b (e5p c b _) i⟩)
def h3a(f:X.w.heap[l]?=some o)(d:d0t o=true){m:U.MC}{v:A5}(j:MR X m v):MR (X.pu l o') m v:=by
 cases m<;>simp [MR]at*;case box t a=>let⟨b,u,i,C,B⟩:=j;exact⟨b,u,i,g4h f d C,d3j f d B⟩
 case sl e c q=>
  let⟨y,w,A⟩:=j;refine⟨y,?_,A.mono λ_ _ h=>e5p f d _ _ _ h⟩;rcases w with w|⟨g,k,x,z,i,D,h,r⟩;.exact .inl w
  .exact .inr ⟨g,k,x,z,i,D,c7t f d h rfl,r⟩
 case fz c q=>exact c57 f d (e5p f d _) j
 case it s p=>let⟨b,i,n,h⟩:=j;exact⟨b,i,n,c7t f d h rfl⟩
 case mp q=>let⟨b,i,n,h⟩:=j;exact⟨b,i,n,c7t f d h rfl⟩
end
section
variable {E:Env} {Z:Nat -> Prop} {π:Nat -> A5} {σ:U.St} {ρ:Nat -> A5} {w:World}
def Rel.pu(n:UOK U)(h:Rel E Z π σ ρ w){l:Nat}{o f:Obj}(k:E.w0.heap.size<=l)(e:w.heap[l]?=some o)(d:d0t o=true):Rel E Z π σ ρ (w.putObj l f):=⟨λt=>g0f e d (h.slot t),λc=>h3a e d (h.mem c),λc b a=>by let⟨j,m,i⟩:=h.own c b a;simp_all,h.dist,λb a=>by rw[World.putObj_size];exact h.zlt b a,h.zin,h.zout,⟨h.ext.os,h.ext.tape,h.ext.output,by rw[World.putObj_size];grind,λb a g=>(World.putObj_heap_other (by omega)).trans (h.ext.block b a g)⟩,h.pin,h.tab⟩
def Rel.al(h:Rel E Z π σ ρ w)(o:Obj):Rel E Z π σ ρ (w.alloc o):=h.val (d:=none) (a:=.unk) (v:=undef) (Ext.alloc noG w o) trivial
end
end
end Go.SX
namespace Go.SX
open Go Go.PL Go.RowKit
def e3m{r:A3 Nat}{m i:Nat}{P:Program}{c:Code}{Q:Exit->Act->World->Prop}{a:Act}{w:World}(h:c.wpIn (FR r) m P Q a w):c.wpIn (FR r) i P Q a w:=λb k j e f _=>h b k j e f λd g=>by cases g
structure StillQ(B:Nat)(I:World->Prop):Prop where al:∀W o,I W->I (W.alloc o)pu:∀W l o o',B<=l->W.heap[l]?=some o->d0t o=true->I W->I (W.putObj l o')
structure KeepsQ(B:Nat)(W W':World):Prop where
 size:W.heap.size<=W'.heap.size
 same:∀(k:Nat)(o:Obj),B<=k->W.heap[k]?=some o->d0t o=true->W'.heap[k]?=some o
def c0v(B:Nat)(W a:World):Prop:=∀(k:Nat)(m:A3 Nat)(s:Nat)(q:Array Nat)(c:Nat),B<=k->W.heap[k]?=some (.mapIter m s q c)->q.isEmpty=false->a.heap[k]?=some (.mapIter m s q c)
def KeepsQ.m{B:Nat}{W a:World}(h:KeepsQ B W a):c0v B W a:=λk m s q c b d e=>h.same k _ b d (by simp[d0t,e])
def c0v.trans{B:Nat}{W e b:World}(h:c0v B W e)(g:c0v B e b):c0v B W b:=λk m s q c a f d=>g k m s q c a (h k m s q c a f d) d
def c0v.put{B l:Nat}{W:World}{r:Loop}{o:Obj}(a:W.heap[l]?=some (.loop r)):c0v B W (W.putObj l o):=λk m s q c f d b=>by
 rw[World.putObj_heap_other (λe=>by simp_all)];omega
def g9r(B:Nat)(d:World->Prop)(b:Code->World->Prop)(W:World):Exit->Act->World->Prop|.normal,_,a=>KeepsQ B W a/\d a|.ret,_,a=>KeepsQ B W a/\b .ret a|.exit c,_,a=>KeepsQ B W a/\b (.exit c) a|_,_,_=>False
def e3d{W:World}{l:Nat}{r:Loop}(h:W.heap[l]?=some (.loop r)):l<W.heap.size:=(qN.1 h).1
def f7x{P:Program}{g:Operand}{ps:Array Tmp}{assign body:Code}{Q:Exit->Act->World->Prop}{a:Act}{w:World}{E:Nat}{Y:Array A5}(hg:a.eval g=.func (.func E) #[] Y)(eg:∀y w,(callFunc E y).run P w=.ok (.enter E y) w)(enc:Nat->Array A5)(b:Nat)(hps:∀k,(enc k).size=ps.size)(I:Nat->World->Prop)(H:Nat->Code->World->Prop)(Z:Nat->Act->World->Prop)(hit:∀(l:Nat)(J Jx:Nat->World->Prop)(W:World),Below w.heap.size w W->(∀k m,J k m->I k m)->(∀k m o,J k m->J k (m.alloc o))->(∀k m,J k m->k<b->YieldAt (FR none) 7 P l (enc k) m λe i=>(e=.returned (.bool true)/\J (k+1) i/\c0v w.heap.size m i)\/(e=.returned (.bool false)/\Jx (k+1) i))->J 0 W->CallsIn (FR none) 8 P E (#[.func (.yield l) #[] #[]]++Y) W λe i=>(∃v,e=.returned v)/\(J b i\/∃k,k<=b/\Jx k i))(L:∀k,StillQ w.heap.size (I k))(cX:∀k c,StillQ w.heap.size (H k c))(cA:∀k x,StillQ w.heap.size (Z k x))(h0:I 0 w)(M:∀(l k:Nat)(W:World),I k W->k<b->assign.wpIn (FR (some l)) 7 P (Exit.then (λx i=>KeepsQ w.heap.size W i/\Z k x i) (λ_ _ _=>False)) {tmps:=(ps.zip (enc k)).foldl (λt(p,v)=>t.setIfInBounds p v) a.tmps,defers:=[]} W)(C:∀(l k:Nat)(x:Act)(W:World),Z k x W->k<b->body.wpIn (FR (some l)) 7 P (g9r w.heap.size (I (k+1)) (H (k+1)) W) x W)(B:∀(D:Nat)(W:World),w.heap.size<=D->I b W->W.heap[D]?=some (.deferred (some []))->Q .normal {a with defers:={target:=.collected D,args:=#[]}::a.defers} W)(A:∀(D k:Nat)(c:Code)(W:World),w.heap.size<=D->k<=b->H k c W->W.heap[D]?=some (.deferred (some []))->c.wpIn (FR none) 9 P Q {a with defers:={target:=.collected D,args:=#[]}::a.defers} W):(Code.rangeFunc g ps assign body).wpIn (FR none) 9 P Q a w:=by
 have b1:Below _ w (w.alloc (.deferred (some []))):=(Below.refl _ w).alloc (Nat.le_refl _) _;refine wpIn_rangeFunc λfn hfn=>?_;let R:LoopState->A3 _->Loop:=λs j=>{state:=s,pending:=j,fn,tmps:=a.tmps,params:=ps,assign,body,defers:=w.heap.size};let V:=(w.alloc (.deferred (some []))).alloc (.loop (R .ready none));have K:(resolve a.eval (rangeCall g (w.heap.size+1)) 0).run P V=.ok {target:=.fn (.func E) Y,args:=#[.func (.yield (w.heap.size+1)) #[] #[]]} V:=by simp [resolve,hg];simp[go_sem]
 refine⟨_,_,V,_,V,E,#[.func (.yield (w.heap.size+1)) #[] #[]]++Y,V,(run_enterLoop_outer _ _ _ _ _),K,?_,?_,λ_=>by decide,?_⟩;.intro f' hf';trivial
 .simp[invoke,go_sem,eg]
 let q(s:LoopState)(j:A3 _)(W:World):=W.heap[w.heap.size+1]?=some (.loop (R s j))/\W.heap[w.heap.size]?=some (.deferred (some []));have kd:∀{s j W}(s':LoopState)(j':A3 _),q s j W->q s' j' _:=λ_ _ h=>⟨World.putObj_heap_same (e3d h.1),(World.putObj_heap_other (by omega)).trans h.2⟩;have kf:∀{s j W i},KeepsQ _ W i->q s j W->q s j i:=λz h=>⟨z.same _ _ (by omega) h.1 rfl,z.same _ _ (Nat.le_refl _) h.2 rfl⟩;refine(hit _ (λk W=>I k W/\q _ _ W) (λk W=>∃c,H k c W/\q .done (some c) W) V (b1.alloc (by simp) _) (λk m h=>h.1) (λk m o h=>⟨(L k).al _ _ h.1,(Below.heap_alloc _ _ _ (e3d h.2.1)).trans h.2.1,(Below.heap_alloc _ _ _ (qN.1 h.2.2).1).trans h.2.2⟩) ?_ ⟨((L 0).al _ _ ((L 0).al _ _ h0)),(by have:=World.alloc_heap_new (w.alloc (.deferred (some []))) (.loop (R .ready none));rwa[World.size_alloc]at this),((Below.heap_alloc _ _ _ (by simp)).trans (World.alloc_heap_new w _))⟩).mono ?_
 .intro k W⟨S,r⟩z;refine⟨fn,_,assign,body,run_yield r.1 (hps k),roundIn_of_wpIn hfn (wpIn_mono (M _ k W S z) λe x i n=>?_)⟩;cases e<;>first|exact n.elim|skip
  let⟨T,ha'⟩:=n;have u:=kf T r;refine⟨_,run_beginRound u.1 rfl,?_⟩;have X:q .busy none _:=kd _ _ u;refine wpIn_mono (C _ k x _ ((cA k x).pu _ _ _ _ (by omega) u.1 rfl ha') z) λe a3 F n=>?_;have U:∀(j:A3 _),KeepsQ _ _ F->(Instr.endRound _ j).run P F=.ok _ _/\q _ _ F:=λj d=>⟨run_endRound j (kf d X).1,kf d X⟩;have N:∀(c:Code),KeepsQ _ _ F->H (k+1) c F->∃v G,(Instr.endRound _ _).run P F=.ok v G/\((Ending.returned v=.returned (.bool true)/\(I (k+1) G/\q .ready none G)/\c0v w.heap.size W G)\/(Ending.returned v=.returned _/\∃c,H _ c G/\q _ (some c) G)):=λc d hx=>by let⟨hr,f⟩:=U (some c) d;exact⟨_,_,hr,.inr ⟨rfl,c,(cX _ c).pu _ _ _ _ (by omega) f.1 rfl hx,kd _ _ f⟩⟩
  cases e with|normal=>let⟨d,hi3⟩:=n;let⟨hr,f⟩:=U none d;exact⟨_,_,hr,.inl ⟨rfl,⟨(L _).pu _ _ _ _ (by omega) f.1 rfl hi3,kd _ _ f⟩,((T.m.trans (c0v.put u.1)).trans d.m).trans (c0v.put f.1)⟩⟩|ret=>exact N _ n.1 n.2|exit id=>exact N _ n.1 n.2|goto t=>exact n.elim|panic ch=>exact n.elim|outgrown=>exact n.elim
 .rintro e W2⟨⟨v,rfl⟩,⟨S,r⟩|⟨k,z,c,S,r⟩⟩;.exact⟨none,_,run_endLoop r.1 (by simp[R]),B _ _ (Nat.le_refl _) ((L _).pu _ _ _ _ (by omega) r.1 rfl S) ((World.putObj_heap_other (by omega)).trans r.2)⟩
  .exact⟨some c,_,run_endLoop r.1 (by simp[R]),A _ k c _ (Nat.le_refl _) z ((cX _ c).pu _ _ _ _ (by omega) r.1 rfl S) ((World.putObj_heap_other (by omega)).trans r.2)⟩
def bw0(tS c tI d b:TypeId):O Oper:=[{dst:=some 4,op:=Op.load tS (Operand.tmp 1),type:=tS,pos:= "iter.go:28",after:=#[],guard:=none},{dst:=some 5,op:=Op.call {callee:=Callee.builtin Builtin.len,args:=#[Operand.tmp 4],argTypes:=#[tS]},type:=tI,pos:= "iter.go:28",after:=#[{on:=0,ground:=Ground.data}],guard:=none},{dst:=some 6,op:=Op.binOp BinOp.sub tI (Operand.tmp 5) (Operand.const (Value.int IntKind.i64 1)) tI,type:=tI,pos:= "iter.go:28",after:=#[{on:=1,ground:=Ground.data}],guard:=none},{dst:=some 3,op:=Op.assign (Operand.tmp 6),type:=tI,pos:= "iter.go:28",after:=#[{on:=2,ground:=Ground.data},{on:=0,ground:=Ground.phase},{on:=1,ground:=Ground.phase},{on:=2,ground:=Ground.phase}],guard:=none}]
def bw1(tS c tI tB b:TypeId):O Oper:=[{dst:=some 7,op:=Op.move (Operand.tmp 3),type:=tI,pos:= "iter.go:28",after:=#[],guard:=none},{dst:=some 8,op:=Op.binOp BinOp.geq tI (Operand.tmp 7) (Operand.const (Value.int IntKind.i64 0)) tI,type:=tB,pos:= "iter.go:28",after:=#[{on:=0,ground:=Ground.data}],guard:=none}]
def bw2(tS c tI d b:TypeId):O Oper:=[{dst:=some 9,op:=Op.move (Operand.tmp 3),type:=tI,pos:= "iter.go:28",after:=#[],guard:=none},{dst:=some 10,op:=Op.binOp BinOp.sub tI (Operand.tmp 9) (Operand.const (Value.int IntKind.i64 1)) tI,type:=tI,pos:= "iter.go:28",after:=#[{on:=0,ground:=Ground.data}],guard:=none},{dst:=some 3,op:=Op.assign (Operand.tmp 10),type:=tI,pos:= "iter.go:28",after:=#[{on:=1,ground:=Ground.data},{on:=0,ground:=Ground.phase},{on:=1,ground:=Ground.phase}],guard:=none}]
def bw3(tS tE tI tB tY:TypeId):O Oper:=[{dst:=some 11,op:=Op.move (Operand.tmp 0),type:=tY,pos:= "iter.go:29",after:=#[],guard:=none},{dst:=some 12,op:=Op.move (Operand.tmp 3),type:=tI,pos:= "iter.go:29",after:=#[],guard:=none},{dst:=some 13,op:=Op.load tS (Operand.tmp 1),type:=tS,pos:= "iter.go:29",after:=#[],guard:=none},{dst:=some 14,op:=Op.move (Operand.tmp 3),type:=tI,pos:= "iter.go:29",after:=#[],guard:=none},{dst:=some 15,op:=Op.indexAddr tS (Operand.tmp 13) (Operand.tmp 14),type:=0,pos:= "iter.go:29",after:=#[{on:=2,ground:=Ground.data},{on:=3,ground:=Ground.data}],guard:=none},{dst:=some 16,op:=Op.load tE (Operand.tmp 15),type:=tE,pos:= "iter.go:29",after:=#[{on:=4,ground:=Ground.data}],guard:=none},{dst:=some 17,op:=Op.call {callee:=Callee.value (Operand.tmp 11),args:=#[Operand.tmp 12,Operand.tmp 16],argTypes:=#[tI,tE]},type:=tB,pos:= "iter.go:29",after:=#[{on:=0,ground:=Ground.data},{on:=1,ground:=Ground.data},{on:=5,ground:=Ground.data}],guard:=none},{dst:=some 18,op:=Op.unOp UnOp.not tB (Operand.tmp 17),type:=tB,pos:= "iter.go:29",after:=#[{on:=6,ground:=Ground.data}],guard:=none}]
def f9i(tS c a d b:TypeId):Code:=(Code.seq (Code.region 0 (bw0 tS c a d b).toArray false) (Code.block 0 (Code.loop (Code.seq (Code.seq (Code.region 1 (bw1 tS c a d b).toArray false) (Code.cond (Operand.tmp 8) Code.skip (Code.exit 0))) (Code.seq (Code.block 1 (Code.seq (Code.region 3 (bw3 tS c a d b).toArray false) (Code.cond (Operand.tmp 18) Code.ret Code.skip))) (Code.region 2 (bw2 tS c a d b).toArray false))))))
def e0i{n:Int}(a:-9223372036854775808<=n)(b:n<=9223372036854775807):IntKind.i64.wrap n=n:=by rw[IntKind.wrap_i64];omega
def a1q{P:Program}{n m:Nat}{r:A3 Nat}{a:O Oper}(g:Plan.okTmps a n=true)(e:Plan.okSel a=true){Q:Exit->Act->World->Prop}{ρ:Nat->A5}{c:O Deferred}{w:World}{i:Nat}{rest:O Nat}{o:Oper}{v:A5}(d:a[i]?=some o)(f:o.guard=none)(h:YV P (ev ρ) w o v)(j:wpOpsIn (FR r) m P a.toArray Q rest (Frd n (b20 ρ o.dst v) c) w):wpOpsIn (FR r) m P a.toArray Q (i::rest) (Frd n ρ c) w:=by
 rw[wpOpsIn_cons];unfold wpOpIn;simp [getElem?_toArray,d];rw[if_pos (by simp[Region.wanted,f])];refine a0k.wp (K:=λu b=>u=v/\b=w) ?_ ?_;.unfold a0k;rw[c0s g e d ρ];simp_all
 .rintro u b⟨rfl,rfl⟩;rw[c6r];omega
def d87{P:Program}{n m:Nat}{r:A3 Nat}{a:O Oper}(s:Plan.okTmps a n=true)(q:Plan.okSel a=true){Q:Exit->Act->World->Prop}{ρ:Nat->A5}{d:O Deferred}{w:World}{i:Nat}{rest:O Nat}{o:Oper}(g:a[i]?=some o)(x:o.guard=none)(y:∀c,o.op≠.defer c){l:Nat}{f:FuncId}{b:Array A5}{assign body:Code}(t:(execOp (ev ρ) o).run P w=.ok (.round l f b assign body) w){R:Ending->World->Prop}(j:RoundIn (FR r) (m-1) P l f b assign body w R)(k:∀e w',R e w'->∃v,e=.returned v/\wpOpsIn (FR r) m P a.toArray Q rest (Frd n (b20 ρ o.dst v) d) w'):wpOpsIn (FR r) m P a.toArray Q (i::rest) (Frd n ρ d) w:=by rw[wpOpsIn_cons];unfold wpOpIn;simp [getElem?_toArray,g];rw[if_pos (by simp[Region.wanted,x])];refine⟨λ_ _=>trivial,?_⟩;rw[Oper.semAt_eq _ _ _ y,c0s s q g ρ,t];refine⟨λp=>Bool.noConfusion (show false=true from p),j.mono ?_⟩;intro e w' u;obtain⟨v,rfl,h⟩:=k e w' u;show wpOpsIn _ m P _ Q _ _ w';rw[c6r];omega
def c9e{n:Nat}(a:O A5)(h:a.length<=n):({tmps:=a.toArray++Array.replicate (n-a.toArray.size) undef,defers:=[]}:Act)=Frd n (λt=>a.getD t undef) []:=by
 congr 1;apply Array.ext;.simp_all
 .intro i d c;rcases Nat.lt_or_ge i a.length with b|b;.simp[b]
  simp_all
def g8v{P:Program}{f:FuncId}{fn:Func}{tS p z B D:TypeId}{n:Nat}(hf:P.funcs[f]?=some fn)(hb:fn.body=some (f9i tS p z B D))(hn:fn.ntmps=19)(s:fn.results=#[])(R:P.underlying tS=some (.slice p))(hE:(P.info? p).map (·.size)=some n){l t b o:Nat}{V:A3 Addr}(Y:b<=9223372036854775807)(S:b<=o){vs:Nat->A5}(J y:Nat->World->Prop)(X:∀k d,J k d->(Instr.loadAt tS (.pointer (some ⟨t,0,none⟩))).run P d=.ok (.slice V b o) d/\∀j,j<b->∃ad,V=some ad/\(Instr.loadAt p (.pointer (some (ad.add (j*n))))).run P d=.ok (vs j) d)(hY:∀k d,J k d->k<b->YieldAt (FR none) 7 P l #[.int .i64 ((b-1-k:Nat):Int),vs (b-1-k)] d λe g=>(e=.returned (.bool true)/\J (k+1) g)\/(e=.returned (.bool false)/\y (k+1) g))(W:World)(Z:J 0 W):CallsIn (FR none) 8 P f #[.func (.yield l) #[] #[],.pointer (some ⟨t,0,none⟩)] W λe g=>(∃v,e=.returned v)/\(J b g\/∃k,k<=b/\y k g):=by
 refine callsIn_of_wp hf hb trivial ?_ rfl;have ha:=c9e (n:=19) [Value.func (.yield l) #[] #[],.pointer (some ⟨t,0,none⟩)] (by simp);rw[show({tmps:=#[Value.func (.yield l) #[] #[],.pointer (some ⟨t,0,none⟩)]++Array.replicate _ undef,defers:=[]}:Act)=Frd 19 _ []from by rw[hn];omega];have u:∀(m:Nat->A5)(g:World),(J b g\/∃k,k<=b/\y k g)->∃v,(results fn (Frd 19 m []).tmps).run P g=.ok v g/\(∃v',Ending.returned v=.returned v')/\(J b g\/∃k,k<=b/\y k g):=λm g h=>⟨_,by simp[results,s];rfl,⟨_,rfl⟩,h⟩;let⟨H,_⟩:=X 0 W Z;refine wpIn_seq (wpIn_region ?_);refine a1q rfl rfl rfl rfl (d32 rfl H) ?_;refine a1q rfl rfl rfl rfl (f6w rfl (by simp[Builtin.len_,run_underlying R];rfl)) ?_;refine a1q rfl rfl rfl rfl (g52 rfl rfl (e0i (by omega) (by omega))) ?_;refine a1q rfl rfl rfl rfl (b7t rfl) ?_;refine wpIn_block (wpIn_loop_rounds (b+1) ?_);have M:∀(r k:Nat)(m:Nat->A5)(d:World),k+r=b->m 0=.func (.yield l) #[] #[]->m 1=.pointer (some ⟨t,0,none⟩)->m 3=.int .i64 ((r:Int)-1)->J k d->Code.roundsIn (FR none) 8 P (Code.seq (Code.seq (Code.region 1 (bw1 tS p z B D).toArray false) (Code.cond (Operand.tmp 8) Code.skip (Code.exit 0))) (Code.seq (Code.block 1 (Code.seq (Code.region 3 (bw3 tS p z B D).toArray false) (Code.cond (Operand.tmp 18) Code.ret Code.skip))) (Code.region 2 (bw2 tS p z B D).toArray false)))
    (Exit.inBlock 0 (bodyPost P fn λe g=>(∃v,e=.returned v)/\(J b g\/∃k,k<=b/\y k g))) (r+1) (Frd 19 m []) d:=by intro r;induction r with|zero=>
    intro k m d hk L F E A;obtain rfl:k=b:=by omega
    refine wpIn_seq (wpIn_seq (wpIn_region ?_));refine a1q rfl rfl rfl rfl (c08 (v:=.int .i64 (-1)) (by rw[show ev m (.tmp 3)=m 3from rfl,E];rfl)) ?_;refine a1q rfl rfl rfl rfl (g54 rfl rfl rfl) ?_;exact wpIn_cond_false (by rw[b75 rfl];rfl) (wpIn_exit (by exact⟨rfl,u _ _ (.inl A)⟩))|succ r ih=>
    intro k m d hk L F E A;let⟨hl,Q⟩:=X k d A;obtain⟨ad,rfl,G⟩:=Q r (by omega);refine wpIn_seq (wpIn_seq (wpIn_region ?_));refine a1q rfl rfl rfl rfl (c08 (v:=.int .i64 (r:Int)) (by rw[show ev m (.tmp 3)=m 3from rfl,E];congr 1;omega)) ?_;refine a1q rfl rfl rfl rfl (g54 (q:=true) rfl rfl (by simp)) ?_;refine wpIn_cond_true (by rw[b75 rfl];rfl) (wpIn_skip ?_);refine wpIn_seq (wpIn_block (wpIn_seq (wpIn_region ?_)));have N:m 3=.int .i64 (r:Int):=by rw[E];congr 1;omega
    refine a1q rfl rfl rfl rfl (c08 L) ?_;refine a1q rfl rfl rfl rfl (c08 N) ?_;refine a1q rfl rfl rfl rfl (d32 F hl) ?_;refine a1q rfl rfl rfl rfl (c08 N) ?_;refine a1q rfl rfl rfl rfl (a9v rfl rfl (by have:=c4r (w:=d) (a:=ad) (n:=b) (c:=o) (i:=(r:Int)) R hE ⟨by omega,by omega⟩;rwa[Int.toNat_natCast]at this)) ?_;refine a1q rfl rfl rfl rfl (d32 rfl G) ?_;let⟨f',tmps,C,T,U,hR⟩:=hY k d A (by omega);rw[show b-1-k=r from by omega]at U;refine d87 rfl rfl rfl rfl (λ_ h=>by cases h) (by simpa[execOp,resolve,ev,b20,upd,Deferred.ofValue,invoke]using U) hR ?_;rintro e W2(⟨rfl,K⟩|⟨rfl,I⟩);.refine⟨_,rfl,?_⟩;refine a1q rfl rfl rfl rfl (f0z rfl rfl) ?_;refine wpIn_cond_false (by rw[b75 rfl];rfl) (wpIn_skip ?_);refine wpIn_region ?_;refine a1q rfl rfl rfl rfl (c08 N) ?_;refine a1q rfl rfl rfl rfl (g52 rfl rfl (e0i (by omega) (by omega))) ?_;refine a1q rfl rfl rfl rfl (b7t rfl) ?_;exact ih (k+1) _ W2 (by omega) L F rfl K
    .refine⟨_,rfl,?_⟩;refine a1q rfl rfl rfl rfl (f0z rfl rfl) ?_;exact wpIn_cond_true (by rw[b75 rfl];rfl) (wpIn_ret ⟨rfl,u _ _ (.inr ⟨k+1,by omega,I⟩)⟩)
 exact M b 0 _ W (by omega) rfl rfl rfl Z
def vl0(tS c tI d b:TypeId):O Oper:=[{dst:=some 5,op:=Op.load tS (Operand.tmp 1),type:=tS,pos:= "iter.go:39",after:=#[],guard:=none},{dst:=some 6,op:=Op.call {callee:=Callee.builtin Builtin.len,args:=#[Operand.tmp 5],argTypes:=#[tS]},type:=tI,pos:= "iter.go:39",after:=#[{on:=0,ground:=Ground.data}],guard:=none},{dst:=some 7,op:=Op.move (Operand.const (Value.int IntKind.i64 0)),type:=tI,pos:= "iter.go:39",after:=#[],guard:=none}]
def vl1(tS c a d b:TypeId):O Oper:=[{dst:=some 8,op:=Op.binOp BinOp.lss a (Operand.tmp 7) (Operand.tmp 6) a,type:=0,pos:= "iter.go:39",after:=#[],guard:=none}]
def vl2(tS tE b d c:TypeId):O Oper:=[{dst:=some 9,op:=Op.indexAddr tS (Operand.tmp 5) (Operand.tmp 7),type:=0,pos:= "iter.go:39",after:=#[],guard:=none},{dst:=some 10,op:=Op.load tE (Operand.tmp 9),type:=tE,pos:= "iter.go:39",after:=#[{on:=0,ground:=Ground.data}],guard:=none},{dst:=some 4,op:=Op.assign (Operand.tmp 10),type:=tE,pos:= "iter.go:39",after:=#[{on:=1,ground:=Ground.data},{on:=0,ground:=Ground.phase},{on:=1,ground:=Ground.phase}],guard:=none}]
def vl3(tS tE c tB tY:TypeId):O Oper:=[{dst:=some 11,op:=Op.move (Operand.tmp 0),type:=tY,pos:= "iter.go:40",after:=#[],guard:=none},{dst:=some 12,op:=Op.move (Operand.tmp 4),type:=tE,pos:= "iter.go:40",after:=#[],guard:=none},{dst:=some 13,op:=Op.call {callee:=Callee.value (Operand.tmp 11),args:=#[Operand.tmp 12],argTypes:=#[tE]},type:=tB,pos:= "iter.go:40",after:=#[{on:=0,ground:=Ground.data},{on:=1,ground:=Ground.data}],guard:=none},{dst:=some 14,op:=Op.unOp UnOp.not tB (Operand.tmp 13),type:=tB,pos:= "iter.go:40",after:=#[{on:=2,ground:=Ground.data}],guard:=none}]
def vl4(tS c tI d b:TypeId):O Oper:=[{dst:=some 15,op:=Op.binOp BinOp.add tI (Operand.tmp 7) (Operand.const (Value.int IntKind.i64 1)) tI,type:=tI,pos:= "iter.go:39",after:=#[],guard:=none},{dst:=some 7,op:=Op.move (Operand.tmp 15),type:=tI,pos:= "iter.go:39",after:=#[{on:=0,ground:=Ground.data}],guard:=none}]
def g06(tS c a d b:TypeId):Code:=(Code.seq (Code.region 0 (vl0 tS c a d b).toArray false) (Code.block 0 (Code.loop (Code.seq (Code.region 1 (vl1 tS c a d b).toArray false) (Code.seq (Code.cond (Operand.tmp 8) Code.skip (Code.exit 0)) (Code.seq (Code.block 1 (Code.seq (Code.region 2 (vl2 tS c a d b).toArray false) (Code.seq (Code.region 3 (vl3 tS c a d b).toArray false) (Code.cond (Operand.tmp 14) Code.ret Code.skip)))) (Code.region 4 (vl4 tS c a d b).toArray false)))))))
def h1e{P:Program}{f:FuncId}{fn:Func}{tS p x A s:TypeId}{n:Nat}(hf:P.funcs[f]?=some fn)(hb:fn.body=some (g06 tS p x A s))(hn:fn.ntmps=16)(t:fn.results=#[])(U:P.underlying tS=some (.slice p))(hE:(P.info? p).map (·.size)=some n){l M b o:Nat}{I:A3 Addr}(Y:b<=9223372036854775807)(S:b<=o){vs:Nat->A5}(J z:Nat->World->Prop)(T:∀k d,J k d->(Instr.loadAt tS (.pointer (some ⟨M,0,none⟩))).run P d=.ok (.slice I b o) d/\∀j,j<b->∃ad,I=some ad/\(Instr.loadAt p (.pointer (some (ad.add (j*n))))).run P d=.ok (vs j) d)(hY:∀k d,J k d->k<b->YieldAt (FR none) 7 P l #[vs k] d λe g=>(e=.returned (.bool true)/\J (k+1) g)\/(e=.returned (.bool false)/\z (k+1) g))(W:World)(X:J 0 W):CallsIn (FR none) 8 P f #[.func (.yield l) #[] #[],.pointer (some ⟨M,0,none⟩)] W λe g=>(∃v,e=.returned v)/\(J b g\/∃k,k<=b/\z k g):=by
 refine callsIn_of_wp hf hb trivial ?_ rfl;have ha:=c9e (n:=16) [Value.func (.yield l) #[] #[],.pointer (some ⟨M,0,none⟩)] (by simp);rw[show({tmps:=#[Value.func (.yield l) #[] #[],.pointer (some _)]++Array.replicate _ undef,defers:=[]}:Act)=Frd 16 _ []by rw[hn];omega];have y:∀(m:Nat->A5)(g:World),(J b g\/∃k,k<=b/\z k g)->∃v,(results fn (Frd 16 m []).tmps).run P g=.ok v g/\(∃v',Ending.returned v=.returned v')/\(J b g\/∃k,k<=b/\z k g):=λm g h=>⟨_,by simp[results,t];rfl,⟨_,rfl⟩,h⟩;let⟨K,_⟩:=T 0 W X;refine wpIn_seq (wpIn_region ?_);refine a1q rfl rfl rfl rfl (d32 rfl K) ?_;refine a1q rfl rfl rfl rfl (f6w rfl (by simp[Builtin.len_,run_underlying U];rfl)) ?_;refine a1q rfl rfl rfl rfl (c08 rfl) ?_;refine wpIn_block (wpIn_loop_rounds (b+1) ?_);have R:∀(r k:Nat)(m:Nat->A5)(d:World),k+r=b->m 0=.func (.yield l) #[] #[]->m 5=.slice I b o->m 6=.int .i64 (b:Int)->m 7=.int .i64 (k:Int)->J k d->Code.roundsIn (FR none) 8 P (Code.seq (Code.region 1 (vl1 tS p x A s).toArray false) (Code.seq (Code.cond (Operand.tmp 8) Code.skip (Code.exit 0)) (Code.seq (Code.block 1 (Code.seq (Code.region 2 (vl2 tS p x A s).toArray false) (Code.seq (Code.region 3 (vl3 tS p x A s).toArray false) (Code.cond (Operand.tmp 14) Code.ret Code.skip)))) (Code.region 4 (vl4 tS p x A s).toArray false))))
    (Exit.inBlock 0 (bodyPost P fn λe g=>(∃v,e=.returned v)/\(J b g\/∃k,k<=b/\z k g))) (r+1) (Frd 16 m []) d:=by intro r;induction r with|zero=>
    intro k m d hk L N E u C;obtain rfl:k=b:=by omega
    refine wpIn_seq (wpIn_region ?_);refine a1q rfl rfl rfl rfl (g6f (q:=false) u E (by simp)) ?_;exact wpIn_seq (wpIn_cond_false (by rw[b75 rfl];rfl) (wpIn_exit (by exact⟨rfl,y _ _ (.inl C)⟩)))|succ r Z=>
    intro k m d hk L N E u C;let⟨hl,G⟩:=T k d C;obtain⟨ad,rfl,H⟩:=G k (by omega);refine wpIn_seq (wpIn_region ?_);refine a1q rfl rfl rfl rfl (g6f (q:=true) u E (by simp;omega)) ?_;refine wpIn_seq (wpIn_cond_true (by rw[b75 rfl];rfl) (wpIn_skip ?_));refine wpIn_seq (wpIn_block (wpIn_seq (wpIn_region ?_)));refine a1q rfl rfl rfl rfl (a9v N u (by have:=c4r (w:=d) (a:=ad) (n:=b) (c:=o) (i:=(k:Int)) U hE ⟨by omega,by omega⟩;rwa[Int.toNat_natCast]at this)) ?_;refine a1q rfl rfl rfl rfl (d32 rfl H) ?_;refine a1q rfl rfl rfl rfl (b7t rfl) ?_;refine wpIn_seq (wpIn_region ?_);refine a1q rfl rfl rfl rfl (c08 L) ?_;refine a1q rfl rfl rfl rfl (c08 rfl) ?_;let⟨f',tmps,D,V,hy,hR⟩:=hY k d C (by omega);refine d87 rfl rfl rfl rfl (λ_ h=>by cases h) (by simpa[execOp,resolve,ev,b20,upd,Deferred.ofValue,invoke]using hy) hR ?_;rintro e W2(⟨rfl,Q⟩|⟨rfl,F⟩);.refine⟨_,rfl,?_⟩;refine a1q rfl rfl rfl rfl (f0z rfl rfl) ?_;refine wpIn_cond_false (by rw[b75 rfl];rfl) (wpIn_skip ?_);refine wpIn_region ?_;refine a1q rfl rfl rfl rfl (g98 u rfl (e0i (by omega) (by omega))) ?_;refine a1q rfl rfl rfl rfl (c08 rfl) ?_;exact Z (k+1) _ W2 (by omega) L N E (by rfl) Q
    .refine⟨_,rfl,?_⟩;refine a1q rfl rfl rfl rfl (f0z rfl rfl) ?_;exact wpIn_cond_true (by rw[b75 rfl];rfl) (wpIn_ret ⟨rfl,y _ _ (.inr ⟨k+1,by omega,F⟩)⟩)
 exact R b 0 _ W (by omega) rfl rfl rfl rfl X
def d6t{c:Type}(p:Nat->Bool)(t:Nat):∀l:O (Nat×c),lk t (l.filter λq=>p q.1)=if p t=true then lk t l else none
 |[]=>by simp[lk]|(k,a)::r=>by
   have b:=d6t p t r;have e:lk t ((k,a)::r)=bif Nat.beq k t then some a else lk t r:=rfl;rw[e];by_cases g:p k=true;.rw[filter_cons_of_pos (by omega)];show(bif Nat.beq k t then some a else lk t _)=_;rw[b];cases f:Nat.beq k t with|true=>simp_all|false=>rfl
   .rw[filter_cons_of_neg (by omega),b];cases f:Nat.beq k t with|true=>simp_all|false=>rfl
section
variable {U:Uni}
def fil(a:O Nat)(σ:U.St):U.St:=⟨σ.sl.filter λq=>!(a.any (Nat.beq q.1)),σ.me,σ.nx⟩
def f7o(a:O Nat)(σ:U.St)(t:Nat):(fil a σ).slot t=if t∈a then .unk else σ.slot t:=by
 unfold fil St.slot;rw[d6t (λk=>!(a.any _)) t _];by_cases h:t∈a;.rw[if_pos h,if_neg (by simp_all)]
 .rw[if_neg h,if_pos (by
   have:a.any (Nat.beq t)=false:=by cases b:a.any _ with|true=>simp_all|false=>rfl
   simp_all)]
variable {E:Env} {Z:Nat -> Prop} {π:Nat -> A5} {σ:U.St} {ρ ρ2:Nat -> A5} {w:World}
def e8x(h:Rel E Z π σ ρ2 w){b:O Nat}(a:∀t,t∉b->ρ2 t=ρ t):Rel E Z π (fil b σ) ρ w:=by
 refine⟨λt=>?_,h.mem,h.own,h.dist,h.zlt,h.zin,h.zout,h.ext,h.pin,h.tab⟩;rw[f7o];split;.exact trivial
 .rename_i c;rw[<-a t c];exact h.slot t
def e1y(h:Rel E Z π σ ρ w){id b:Nat}(d:MB (σ.mem id) (π id) b){o:Obj}(i:w.heap[b]?=some o):d0t o=false:=by
 have j:=h.mem id;cases v:σ.mem id<;>rw[v]at d j<;>first|exact d.elim|skip
 case box t a=>let⟨m,u,f,n,_⟩:=j;rw[f]at d;obtain rfl:=qH d;rw[show w.heap[m]?=_ from n]at i;cases i;rfl
 case sl e c l=>
  let⟨x,r,_⟩:=j;rcases r with⟨f,_⟩|⟨g,y,q,z,f,_,k,_⟩;.rw[f]at d;cases d
  .rw[f]at d;obtain rfl:=qH d;rw[show w.heap[g]?=_ from k]at i;cases i;rfl
 case it s p=>let⟨m,f,_,k⟩:=j;rw[f]at d;obtain rfl:=qH d;rw[show w.heap[m]?=_ from k]at i;cases i;rfl
 case mp l=>let⟨m,f,_,k⟩:=j;rw[f]at d;obtain rfl:=qH d;rw[show w.heap[m]?=_ from k]at i;cases i;rfl
def g6t(B:Nat)(w:World):Nat->Prop:=λb=>B<=b/\∃o,w.heap[b]?=some o/\d0t o=true
def Rel.recs(h:Rel E Z π σ ρ w){B:Nat}(d:E.w0.heap.size<=B):Rel E (λb=>Z b\/g6t B w b) π σ ρ w:=h.fzN _ λb⟨f,o,a,e⟩=>⟨(qN.1 a).1,.inr (.inr (Nat.le_trans d f)),λg c=>by rw[e1y h c a]at e;grind⟩
def Rel.keeps{Z' e:Nat->Prop}{c:Nat->A5}{σ':U.St}{a:Nat->A5}{w':World}(h:Rel (E.re e w) Z' c σ' a w'){B:Nat}(g:∀b,g6t B w b->e b):KeepsQ B w w':=⟨h.ext.size,λk o i d f=>(h.ext.block k (qN.1 d).1 λj=>j.2 (g k ⟨i,o,d,f⟩)).trans d⟩
end
section
variable {U:Uni} {P:Program} {Φ:Phi U} {n:Nat}
def e94(D:Nat):Deferred:={target:=.collected D,args:=#[]}
def hdS(c a:O Nat)(d:O (Nat×Nat))(b:O (EK U.C))(σ:U.St)(s:Keep U b):U.St:=fil c (e5d σ a d b s)
def rfI(a:A3 Tmp)(n k:Nat):Int:=match a with|some _=>(n:Int)-1-k|none=>k
def rfX(a:A3 Tmp)(n k:Nat):Nat:=match a with|some _=>n-1-k|none=>k
def rfN(a:A3 Tmp)(i:Int):Int:=match a with|some _=>i-1|none=>i+1
def rfE(a:A3 Tmp)(n:Nat)(i:Int):Bool:=match a with|some _=>decide (i<0)|none=>decide (i>=(n:Int))
def rfS(a:A3 Tmp)(n:Nat):Int:=match a with|some _=>(n:Int)-1|none=>0
def rfP(a:A3 Tmp)(p1:Tmp):Array Tmp:=match a with|some p=>#[p,p1]|none=>#[p1]
def rfA(a:A3 Tmp)(i:Nat)(v:A5):Array A5:=match a with|some _=>#[.int .i64 (i:Int),v]|none=>#[v]
def c7b(a:A3 Tmp)(n k:Nat):rfI a n 0=rfS a n/\rfN a (rfI a n k)=rfI a n (k+1)/\rfE a n (rfI a n n)=true/\(k<n->rfE a n (rfI a n k)=false/\rfI a n k=(rfX a n k:Int)):=by cases a with|none=>exact⟨rfl,rfl,decide_eq_true (Int.le_refl _),λh=>⟨decide_eq_false (by show¬((k)>=(n:Int));omega),rfl⟩⟩|some p=>exact⟨by show(n)-1-((0))=(n:Int)-1;omega,by show(n)-1-k-1=(n:Int)-1-((k+1));omega,decide_eq_true (by show(n:Int)-1-(n)<0;omega),λh=>⟨decide_eq_false (by show¬((n:Int)-1-k<0);omega),by show(n)-1-k=((n-1-k:Nat):Int);omega⟩⟩
def d1n{R:Type}(P:Program)(Φ:Phi U)(a:O Nat)(j:A3 Tmp)(p1:Tmp)(as o:Code)(h d:O Nat)(f:O (Nat×Nat))(e:O (EK U.C))(s p:Ann U.C)(σ:U.St)(c:U.C)(l:O (U.T c))(k:Kont U R)(i:Keep U e×Int->A3 R)(q:Keep U e×Int):A3 R:=if rfE j l.length q.2=true then k.norm (hdS h d f e σ q.1)else bindO (c7 l q.2) λx=>den P Φ a as s (((hdS h d f e σ q.1).app j (.int .i64 q.2) []).app (some p1) (inj c x) []) ⟨λm=>den P Φ a o p m ⟨λb=>bindO (d6e a f e b) λg=>i (g,rfN j q.2),λr b=>bindO (d6e a f e b) λg=>k.exit r (hdS h d f e σ g),λb=>bindO (d6e a f e b) λg=>k.ret (hdS h d f e σ g)⟩,λ_ _=>none,λ_=>none⟩
def g75{R:Type}(P:Program)(Φ:Phi U)(a:O Nat)(f:A3 Tmp)(p1:Tmp)(as g:Code)(i b:O Nat)(d:O (Nat×Nat))(e:O (EK U.C))(j h:Ann U.C)(σ:U.St)(c:U.C)(l:O (U.T c))(k:Kont U R):A3 R:=bindO (d6e a d e σ) λs=>d9 FU (d1n P Φ a f p1 as g i b d e j h σ c l k) (s,rfS f l.length)
structure BackOK(P:Program)(up:Bool)(g:FuncId)(tS tE:TypeId)(n:Nat):Prop where
 fn:∃fn tI tB tY,P.funcs[g]?=some fn/\(match up with|true=>fn.body=some (g06 tS tE tI tB tY)/\fn.ntmps=16|false=>fn.body=some (f9i tS tE tI tB tY)/\fn.ntmps=19)/\fn.results=#[]enters:∀args w,(callFunc g args).run P w=.ok (.enter g args) w
 sl:P.underlying tS=some (.slice tE)sz:(P.info? tE).map (·.size)=some n
def PI(a:O Nat)(σ:U.St)(ρ:Nat->A5)(Z:Nat->Prop)(W:World):Prop:=∀t,t∈a->e09 (σ.slot t)=true->AVR (⟨Z,λ_=>undef,λ_=>False,W⟩:Cx) (σ.slot t) (ρ t)
def PI.le{a:O Nat}{σ:U.St}{ρ:Nat->A5}{Z Z':Nat->Prop}{W c:World}(h:PI a σ ρ Z W)(f:∀b,Z b->Z' b)(g:Ext (λb=>¬Z b) W c):PI a σ ρ Z' c:=λt e d=>AVR.le (X:=⟨Z,λ_=>undef,λ_=>False,W⟩) (X':=⟨Z',λ_=>undef,λ_=>False,c⟩) ⟨f,g,λ_ h=>h.elim⟩ (h t e d)
def PI.pu{a:O Nat}{σ:U.St}{ρ:Nat->A5}{Z:Nat->Prop}{W:World}(h:PI a σ ρ Z W){l:Nat}{o d:Obj}(e:W.heap[l]?=some o)(b:d0t o=true):PI a σ ρ Z (W.putObj l d):=λt c f=>g0f e b (h t c f)
variable {E:Env} {Z:Nat -> Prop} {π:Nat -> A5} {σ:U.St} {ρ:Nat -> A5} {w:World}
def f09(hU:UOK U)(hΦ:OKΦ P Φ)(hm:P.follows .mixedOrders=true){H:O Nat}{R:Type}{it p1:Tmp}{A:A3 Tmp}{as bd:Code}{ws z:O Nat}{al:O (Nat×Nat)}{es:O (EK U.C)}{a1 a2:Ann U.C}{c:U.C}{l:O (U.T c)}{k:Kont U R}{r:R}{g:FuncId}{tS tE:TypeId}(hg:BackOK P A.isNone g tS tE (U.n c))(hfS:b33 P tS (.list c l:U.AV)=true)(hfE:∀x:U.T c,b33 P tE (inj c x)=true)(hcA:a3z n as=true)(hcB:a3z n bd=true)(hna:d0p as=true)(hnb:d0p bd=true)(hws:∀t,t∉ws->t∉b5k as/\t∉b5k bd/\A≠some t/\t≠p1)(hinv:∀t,t∈z->t∉ws)(hitn:it<n)(hpin:∀i,E.pin i↔i∈H)(hR:Rel E Z π σ ρ w){Bs:Nat}{sv:A5}(hit:ρ it=.func (.func g) #[] #[.pointer (some ⟨Bs,0,none⟩)])(hbox:Mb w Bs tS [sv])(hBs:Z Bs)(hl:k9 (Rp c) (λb=>¬Z b) w sv l)(hden:g75 P Φ H A p1 as bd ws z al es a1 a2 σ c l k=some r){ds:O Deferred}{Q:Exit->(Nat->A5)->O Deferred->World->Prop}(hQn:∀σ' Z' N W D,Rel E Z' N σ' ρ W->(∀b,Z b->Z' b)->Ext (λb=>¬Z b) w W->w.heap.size<=D->Z' D->W.heap[D]?=some (.deferred (some []))->k.norm σ'=some r->Q .normal ρ (e94 D::ds) W)(hQe:∀id σ' Z' N W D,Rel E Z' N σ' ρ W->(∀b,Z b->Z' b)->Ext (λb=>¬Z b) w W->w.heap.size<=D->Z' D->W.heap[D]?=some (.deferred (some []))->k.exit id σ'=some r->Q (.exit id) ρ (e94 D::ds) W)(hQr:∀σ' Z' N W D,Rel E Z' N σ' ρ W->(∀b,Z b->Z' b)->Ext (λb=>¬Z b) w W->w.heap.size<=D->Z' D->W.heap[D]?=some (.deferred (some []))->k.ret σ'=some r->Q .ret ρ (e94 D::ds) W):(Code.rangeFunc (.tmp it) (rfP A p1) as bd).wpIn (FR none) 9 P (λe a w'=>∃ρ' ds',a=Frd n ρ' ds'/\Q e ρ' ds' w') (Frd n ρ ds) w:=by
 let⟨s,hs,hden⟩:=c6b hden;let⟨Z2,π2,hz2,C⟩:=c46 hU hR hpin hs;have hPI:PI z σ ρ Z2 w:=λt ht hp=>AVR.le (X:=⟨Z,λ_=>undef,λ_=>False,w⟩) (X':=⟨Z2,λ_=>undef,λ_=>False,w⟩) ⟨hz2,Ext.refl _ _,λ_ h=>h.elim⟩ (d0g hp (hR.slot t) rfl rfl);have hR4:Rel E Z2 π2 (hdS ws z al es σ s) ρ w:=e8x (c7g C λt ht hp=>d0g hp (hPI t ht hp) rfl rfl) λ_ _=>rfl;have hR5:=hR4.re hU;have hB1:(E.re Z2 w).w0.heap.size<=w.heap.size:=Nat.le_refl _;let⟨av,cap,hsv,hcap,hmax⟩:=hl.shape;have hlen:l.length<=9223372036854775807:=by
  have:maxLen=9223372036854775807:=by decide
  omega
 have hel:∀j,∃u:A5,∀x,l[j]?=some x->∃ad,av=some ad/\ad.block<w.heap.size/\Z ad.block/\a1p (⟨Z2,λ_=>undef,λ_=>False,w⟩:Cx) (inj c x) u/\CA w (ad.add (j*U.n c)) u.cells.toList:=by intro j;cases hx:l[j]?with|none=>exact⟨undef,λx h=>by cases h⟩|some x=>
    rcases hl with⟨_,e⟩|⟨a,cap',hv,_,_,hi⟩;.rw[e]at hx;simp at hx
    .let⟨cs,hrep,hlt,M,hca⟩:=hi j x hx;have M:=Classical.byContradiction λh=>M h;have hrep':(Rp c).rep (⟨Z2,λ_=>undef,λ_=>False,w⟩:Cx).G w cs x:=(Rp c).weaken hrep λb _ f hz'=>f (hz2 b hz');let⟨u,hu,hA⟩:=d9e hU hrep';refine⟨u,λx' hx'=>?_⟩;cases hx';have hav:av=some a:=by rw[hsv]at hv;cases hv;rfl
     exact⟨a,hav,hlt,M,hA,by rw[hu];exact hca⟩
 let⟨vs,hvs⟩:=Classical.axiomOfChoice hel;have facts:∀{T:U.St}{y q S},Rel (E.re Z2 w) y q T ρ S->(Instr.loadAt tS (.pointer (some ⟨Bs,0,none⟩))).run P S=.ok (.slice av l.length cap) S/\∀j,j<l.length->∃ad,av=some ad/\(Instr.loadAt tE (.pointer (some (ad.add (j*U.n c))))).run P S=.ok (vs j) S:=by
  intro T y q S F;have hle:Cx.Le (⟨Z2,λ_=>undef,λ_=>False,w⟩:Cx) (⟨y,λ_=>undef,λ_=>False,S⟩:Cx):=⟨λb f=>F.zout b f,F.ext.mono λb f M=>f.2 M,λ_ h=>h.elim⟩;have same:=λb f M=>F.ext.block b f λhg=>hg.2 (hz2 b M);refine⟨?_,λj hj=>?_⟩
  .have hA:=(show k9 (Rp c) (λb=>¬Z2 b) w sv l from hl.weaken λb _ f M=>f (hz2 b M));have hcell:=b1q hl;have hca:CA S ⟨Bs,0,none⟩ sv.cells.toList:=by rw[hcell];exact(hbox.ca).of_block (same Bs hbox.lt hBs)
   have:=c8g hU hfS (a1p.le hle hA) hca;rw[hsv]at this;omega
  .let⟨ad,hav,hlt,M,hA,hca⟩:=hvs j _ (qG hj);exact⟨ad,hav,c8g hU (hfE _) (a1p.le hle hA) (hca.of_block (by rw[a2h];exact same _ hlt M))⟩
 let BODY:=d1n P Φ H A p1 as bd ws z al es a1 a2 σ c l k;let kb(m:Nat)(i:Int):Kont U R:=⟨λσ2=>bindO (d6e H al es σ2) λs'=>d9 m BODY (s',rfN A i),λid σ2=>bindO (d6e H al es σ2) λs'=>k.exit id (hdS ws z al es σ s'),λσ2=>bindO (d6e H al es σ2) λs'=>k.ret (hdS ws z al es σ s')⟩;let I:=λB W=>∃m V y q,Rel (E.re Z2 w) y q (hdS ws z al es σ V) ρ W/\PI z σ ρ y W/\d9 m BODY (V,rfI A l.length B)=some r;let Ix:Nat->Code->World->Prop:=λ_ cd W=>∃V y q,Rel (E.re Z2 w) y q (hdS ws z al es σ V) ρ W/\((cd=.ret/\k.ret (hdS ws z al es σ V)=some r)\/∃id,cd=.exit id/\k.exit id (hdS ws z al es σ V)=some r);let Ax:=λB a' W=>∃m L T y q,a'=Frd n L []/\(∀t,t∉ws->L t=ρ t)/\Rel (E.re Z2 w) y q T L W/\PI z σ ρ y W/\den P Φ H bd a2 T (kb m (rfI A l.length B))=some r;have alE:∀{y:Nat->Prop}(W:World)(o:Obj),Ext (λb=>¬y b) W (W.alloc o):=λW o=>Ext.alloc _ W o;have back:∀{y Z3 π3 W W2}{σ2:U.St}{ρ2:Nat->A5}{s':Keep U es},PI z σ ρ y W->(∀t,t∉ws->ρ2 t=ρ t)->(∀b,y b->Z3 b)->Ext (λb=>¬y b) W W2->Rel (E.re Z2 w) Z3 π3 σ2 ρ2 W2->d6e H al es σ2=some s'->∃Z4 π4,Rel (E.re Z2 w) Z4 π4 (hdS ws z al es σ s') ρ W2/\PI z σ ρ Z4 W2:=by intro y Z3 π3 W W2 σ2 ρ2 s' hp hρ M hE Y hs';let⟨Z4,π4,hz4,hR'⟩:=c46 hU Y (λi=>hpin i) hs';have hp4:=hp.le (λb f=>hz4 b (M b f)) hE;refine⟨Z4,π4,e8x (c7g hR' λt ht hpu=>?_) hρ,hp4⟩;rw[hρ t (hinv t ht)];exact d0g hpu (hp4 t ht hpu) rfl rfl
 have main:=f7x (g:=.tmp it) (ps:=rfP A p1) (assign:=as) (body:=bd) (Q:=λe a w'=>∃ρ' ds',a=Frd n ρ' ds'/\Q e ρ' ds' w') (a:=Frd n ρ ds) (by rw[b75 (by simpa[Operand.below]using hitn)];exact hit) hg.enters (λB=>rfA A (rfX A l.length B) (vs (rfX A l.length B))) l.length (λ_=>by cases A<;>rfl) I Ix Ax ?hit ?cI ?cX ?cA ⟨FU,s,Z2,π2,hR5,hPI,by rw[(c7b A l.length 0).1];omega⟩ ?hass ?hbody ?hdone ?hstop;.omega
 case hit=>
  intro l' J Jx W hBelow hJI _ hY h0;let⟨fn,tI,tB,tY,hf,f,hres⟩:=hg.fn;have hB:∀B S,J B S->B<l.length->YieldAt (FR none) 7 P l' (rfA A (rfX A l.length B) (vs (rfX A l.length B))) S λe W'=>(e=.returned (.bool true)/\J (B+1) W')\/(e=.returned (.bool false)/\Jx (B+1) W'):=λB S hj hk=>by let⟨f1,t1,a1,b1,q1,q2⟩:=hY B S hj hk;exact⟨f1,t1,a1,b1,q1,RoundIn.mono q2 λe W' h=>h.imp (λh=>⟨h.1,h.2.1⟩) λh=>h⟩
  cases A with|none=>exact h1e hf f.1 f.2 hres hg.sl hg.sz hlen hcap J Jx (λB S hj=>by let⟨_,_,_,_,F,_,_⟩:=hJI B S hj;exact facts F) hB W h0|some p=>exact g8v hf f.1 f.2 hres hg.sl hg.sz hlen hcap J Jx (λB S hj=>by let⟨_,_,_,_,F,_,_⟩:=hJI B S hj;exact facts F) hB W h0
 case cI=>intro B;refine⟨λW o⟨m,V,y,q,F,Y,K⟩=>⟨m,V,y,q,F.al o,Y.le (λ_ h=>h) (alE W o),K⟩,λW l' o o' hB hl' ho⟨m,V,y,q,F,Y,K⟩=>⟨m,V,y,q,F.pu hU hB hl' ho,Y.pu hl' ho,K⟩⟩
 case cX=>intro B cd;refine⟨λW o⟨V,y,q,F,Y⟩=>⟨V,y,q,F.al o,Y⟩,λW l' o o' hB hl' ho⟨V,y,q,F,Y⟩=>⟨V,y,q,F.pu hU hB hl' ho,Y⟩⟩
 case cA=>intro B a';refine⟨λW o⟨m,L,T,y,q,e,hρ,F,Y,K⟩=>⟨m,L,T,y,q,e,hρ,F.al o,Y.le (λ_ h=>h) (alE W o),K⟩,λW l' o o' hB hl' ho⟨m,L,T,y,q,e,hρ,F,Y,K⟩=>⟨m,L,T,y,q,e,hρ,F.pu hU hB hl' ho,Y.pu hl' ho,K⟩⟩
 case hass=>rintro l' B W⟨m,V,y,q,F,Y,K⟩hk;cases m with|zero=>cases K|succ m=>
    have K:d1n P Φ H A p1 as bd ws z al es a1 a2 σ c l k (d9 m BODY) (V,rfI A l.length B)=some r:=K;let⟨_,_,_,hkl⟩:=c7b A l.length B;let⟨hne,hidx⟩:=hkl hk;unfold d1n at K;rw[if_neg (by rw[hne];simp)]at K;let⟨x,hx,K⟩:=c6b K;let⟨ii,hii⟩:∃ii,rfI A l.length B=ii:=⟨_,rfl⟩;rw[hii]at hx hidx K;generalize rfX A l.length B=xi at hidx;have hxj:=by have:=(b8d hx).2.2;rwa[hidx]at this
    obtain⟨ad,hav,hlt,M,hA,hca⟩:=hvs _ x hxj;have hfr:(((rfP A p1).zip (rfA A xi (vs xi))).foldl (λt(p,v)=>t.setIfInBounds p v) (Frd n ρ ds).tmps)=(Frd n (b20 (b20 ρ A (.int .i64 (xi:Int))) (some p1) (vs xi)) []).tmps:=by
     have e2:=congrArg Act.tmps (c6r n (b20 ρ A (.int .i64 (xi:Int))) ds (some p1) (vs xi))
     cases A with|none=>
       have ez:(#[p1]:Array Tmp).zip #[vs xi]=#[(p1,vs xi)]:=by simp
       show(((#[p1]:Array Tmp).zip #[vs xi]).foldl _ _)=_;rw[ez];exact e2|some p=>
       have e1:=congrArg Act.tmps (c6r n ρ ds (some p) (.int .i64 (xi:Int)));simp [Act.put]at e1 e2;have ez:(#[p,p1]:Array Tmp).zip #[Value.int .i64 (xi:Int),vs xi]=#[(p,Value.int .i64 (xi:Int)),(p1,vs xi)]:=by simp
       show(((#[p,p1]:Array Tmp).zip #[Value.int .i64 (xi:Int),vs xi]).foldl _ _)=_;rw[ez];show((Frd n ρ ds).tmps.setIfInBounds p _).setIfInBounds p1 _=_;rw[e1];exact e2
    rw[hfr];have hr:=F.recs hB1;have hr2:=hr.re hU;have hle:Cx.Le (⟨Z2,λ_=>undef,λ_=>False,w⟩:Cx) (cx (λb=>y b\/g6t w.heap.size W b) q ((hdS ws z al es σ V).app A (.int .i64 ii) []) W):=⟨λb f=>.inl (F.zout b f),F.ext.mono λb f M=>f.2 M,λ_ h=>h.elim⟩;have hv1:=hr2.val (d:=A) (a:=.int .i64 ii) (v:=.int .i64 (xi:Int)) (Ext.refl noG W) (by show Value.int .i64 _=Value.int .i64 _;rw[hidx]);have hv2:=hv1.val (d:=some p1) (Ext.refl noG W) (AVR.of1 (a1p.le hle hA));have hwp:=a6v hU hΦ hm as a1 _ _ r hcA K ((E.re Z2 w).re (λb=>y b\/g6t w.heap.size W b) W) (λi=>hpin i) (λt=>t∉ws) ρ (λe L S=>e=.normal/\KeepsQ w.heap.size W S/\Ax B (Frd n L []) S) (λt ht=>(hws t ht).1) ⟨λσ' Z' N L S hρ1 hR1 h'=>?_,λi σ' Z' N L S hρ1 hR1 h'=>(by cases h'),λσ' Z' N L S hρ1 hR1 h'=>(by cases h')⟩ _ _ _ W (λt ht=>?_) hv2;.refine e3m (wpIn_mono (hwp (some l') [] (.inr hna)) ?_);rintro e a' S⟨L,rfl,rfl,hkq,hax⟩;exact⟨hkq,hax⟩
    .refine⟨rfl,Rel.keeps hR1 λb f=>.inr f,m,L,σ',Z',N,rfl,hρ1,Rel.un hr hR1,Y.le (λb f=>hR1.zout b (.inl f)) (hR1.ext.mono λb f M=>f.2 (.inl M)),by rw[hii];omega⟩
    .let⟨_,_,n0,n1⟩:=hws t ht;rw[c9j,if_neg (by simpa usingλe=>n1 e.symm),c9j,if_neg n0]
 case hbody=>
  rintro l' B a' W⟨m,L,T,y,q,rfl,hρ1,F,Y,K⟩hk;have hr:=F.recs hB1;have hr2:=hr.re hU;have hwp:=a6v hU hΦ hm bd a2 _ _ r hcB K ((E.re Z2 w).re (λb=>y b\/g6t w.heap.size W b) W) (λi=>hpin i) (λt=>t∉ws) ρ (λe ρ2 W2=>g9r w.heap.size (I (B+1)) (Ix (B+1)) W e (Frd n ρ []) W2) (λt ht=>(hws t ht).2.1) ⟨λσ' Z' N ρ2 W2 hρ2 C h'=>?_,λi σ' Z' N ρ2 W2 hρ2 C h'=>?_,λσ' Z' N ρ2 W2 hρ2 C h'=>?_⟩ _ _ _ W hρ1 hr2;.refine e3m (wpIn_mono (hwp (some l') [] (.inr hnb)) ?_);rintro e a' S⟨ρ2,rfl,hq⟩;cases e<;>exact hq
  .let⟨s',hs',h'⟩:=c6b h';let⟨Z4,π4,hR4',hp4⟩:=back Y hρ2 (λb f=>C.zout b (.inl f)) (C.ext.mono λb f M=>f.2 (.inl M)) (Rel.un hr C) hs';refine⟨Rel.keeps C λb f=>.inr f,m,s',Z4,π4,hR4',hp4,?_⟩;rw[<-(c7b A l.length B).2.1];omega
  .let⟨s',hs',h'⟩:=c6b h';let⟨Z4,π4,hR4',hp4⟩:=back Y hρ2 (λb f=>C.zout b (.inl f)) (C.ext.mono λb f M=>f.2 (.inl M)) (Rel.un hr C) hs';exact⟨Rel.keeps C λb f=>.inr f,s',Z4,π4,hR4',.inr ⟨i,rfl,h'⟩⟩
  .let⟨s',hs',h'⟩:=c6b h';let⟨Z4,π4,hR4',hp4⟩:=back Y hρ2 (λb f=>C.zout b (.inl f)) (C.ext.mono λb f M=>f.2 (.inl M)) (Rel.un hr C) hs';exact⟨Rel.keeps C λb f=>.inr f,s',Z4,π4,hR4',.inl ⟨rfl,h'⟩⟩
 case hdone=>rintro D W hD⟨m,V,y,q,F,Y,K⟩hWD;cases m with|zero=>cases K|succ m=>
    have K:d1n P Φ H A p1 as bd ws z al es a1 a2 σ c l k (d9 m BODY) (V,rfI A l.length l.length)=some r:=K;unfold d1n at K;rw[if_pos (c7b A l.length 0).2.2.1]at K;have hRE:=Rel.un hR4 F;have hfz:=hRE.fzN (λb=>b=D) λb f=>by subst f;exact⟨(qN.1 hWD).1,.inr (.inr (Nat.le_trans hR.ext.size hD)),λid hMB=>by have:=e1y hRE hMB hWD;cases this⟩
    have hZ:∀b,Z b->y b\/b=D:=λb f=>.inl (F.zout b (hz2 b f));have hEx:=F.ext.mono λb f M=>f.2 (hz2 b M);exact⟨ρ,e94 D::ds,rfl,hQn _ _ _ W D hfz hZ hEx hD (.inr rfl) hWD K⟩
 case hstop=>
  rintro D B cd W hD hk⟨V,y,q,F,K⟩hWD;have hRE:=Rel.un hR4 F;have hfz:=hRE.fzN (λb=>b=D) λb f=>by subst f;exact⟨(qN.1 hWD).1,.inr (.inr (Nat.le_trans hR.ext.size hD)),λid hMB=>by have:=e1y hRE hMB hWD;cases this⟩
  have hZ:∀b,Z b->y b\/b=D:=λb f=>.inl (F.zout b (hz2 b f));have hEx:=F.ext.mono λb f M=>f.2 (hz2 b M);rcases K with⟨rfl,K⟩|⟨id,rfl,K⟩;.exact wpIn_ret ⟨ρ,e94 D::ds,rfl,hQr _ _ _ W D hfz hZ hEx hD (.inr rfl) hWD K⟩
  .exact wpIn_exit ⟨ρ,e94 D::ds,rfl,hQe id _ _ _ W D hfz hZ hEx hD (.inr rfl) hWD K⟩
end
section
variable {U:Uni} {P:Program} {Φ:Phi U} {n:Nat}
def Dn(E:Env)(Z:Nat->Prop)(w:World)(b:O Deferred):Prop:=∃a:O Nat,b=a.map e94/\a.Nodup/\∀D∈a,Z D/\E.w0.heap.size<=D/\w.heap[D]?=some (.deferred (some []))
def Dn.le{E:Env}{Z Z':Nat->Prop}{w w':World}{a:O Deferred}(h:Dn E Z w a)(g:∀b,Z b->Z' b)(m:Ext (λb=>¬Z b) w w'):Dn E Z' w' a:=by let⟨l,e,j,i⟩:=h;exact⟨l,e,j,λD f=>by let⟨d,k,c⟩:=i D f;exact⟨g D d,k,(m.block D (qN.1 c).1 λh=>h d).trans c⟩⟩
def Dn.cons{E:Env}{Z:Nat->Prop}{w:World}{d:O Deferred}(h:Dn E Z w d){D:Nat}(k:Z D)(j:E.w0.heap.size<=D)(i:w.heap[D]?=some (.deferred (some [])))(b:∀c∈d,c≠e94 D):Dn E Z w (e94 D::d):=by
 obtain⟨e,rfl,g,f⟩:=h;refine⟨D::e,rfl,List.nodup_cons.2 ⟨λa=>b _ (List.mem_map.2 ⟨D,a,rfl⟩) rfl,g⟩,λc a=>?_⟩;rcases qO.1 a with rfl|a;.grind
 .exact f c a
structure KOKD{R:Type}(E:Env)(k:Kont U R)(r:R)(Q:Exit->(Nat->A5)->O Deferred->World->Prop):Prop where
 norm:∀σ Z π ρ ds w,Rel E Z π σ ρ w->Dn E Z w ds->k.norm σ=some r->Q .normal ρ ds w
 exit:∀i σ Z π ρ ds w,Rel E Z π σ ρ w->Dn E Z w ds->k.exit i σ=some r->Q (.exit i) ρ ds w
 ret:∀σ Z π ρ ds w,Rel E Z π σ ρ w->Dn E Z w ds->k.ret σ=some r->Q .ret ρ ds w
def g4w{R:Type}(f:FuncId->A3 (TypeId×U.C×Bool))(e:Bool)(σ:U.St)(t:Tmp)(K:(c:U.C)->O (U.T c)->U.St->A3 R):A3 R:=match σ.slot t with
 |.clo g [.ref i]=>match f g,σ.mem i with
   |some (a,c,u),.box d b=>match Nat.beq d a&&(u==e),b with|true,.list _ l=>(match b8i c l with|some l=>K c l (σ.app none .unk [(i,.dead)])|none=>none)|true,.nils=>K c [] (σ.app none .unk [(i,.dead)])|_,_=>none
   |_,_=>none
 |.vl g d _ l=>match f g with|some (a,c,u)=>(match Nat.beq d a&&(u==e),b8i c l with|true,some l=>K c l σ|_,_=>none)|none=>none
 |_=>none
def wsR(b:A3 Tmp)(p1:Tmp)(as a:Code):O Nat:=(match b with|some p=>p::p1::(b5k as++b5k a)|none=>p1::(b5k as++b5k a))
def psO:O Tmp->A3 (A3 Tmp×Tmp)|[b,a]=>some (some b,a)|[a]=>some (none,a)|_=>none
def g0i{R:Type}(P:Program)(Φ:Phi U)(o:FuncId->A3 (TypeId×U.C×Bool))(d:O Nat):Code->Ann U.C->U.St->Kont U R->A3 R
 |.seq a b,f,e,k=>match d0p (.seq a b)with|true=>den P Φ d (.seq a b) f e k|false=>g0i P Φ o d a f.fst e ⟨λe=>g0i P Φ o d b f.snd e k,k.exit,k.ret⟩
 |.block u a,f,e,k=>match d0p a with|true=>den P Φ d (.block u a) f e k|false=>g0i P Φ o d a f e ⟨k.norm,λi e=>match Nat.beq i u with|true=>k.norm e|false=>k.exit i e,k.ret⟩
 |.rangeFunc w x q s,f,e,k=>match w,psO x.toList,f with
   |.tmp t,some (m,p),.l g y v h=>match f1m g (wsR m p q s)with|true=>g4w o m.isNone e t λc l r=>g75 P Φ d m p q s (wsR m p q s) g y v h.fst h.snd r c l k|false=>none
   |_,_,_=>none
 |c,f,e,k=>match d0p c with|true=>den P Φ d c f e k|false=>none
def f3a(n:Nat):Code->Bool
 |.seq a b=>match d0p (.seq a b)with|true=>a3z n (.seq a b)|false=>f3a n a&&f3a n b
 |.block g a=>match d0p a with|true=>a3z n (.block g a)|false=>f3a n a
 |.rangeFunc h i e f=>(match h with|.tmp t=>decide (t<n)|_=>false)&&(a3z n e&&a3z n f&&(d0p e&&d0p f))|c=>a3z n c
variable {E:Env} {Z:Nat -> Prop} {π:Nat -> A5} {σ:U.St} {ρ:Nat -> A5} {w:World}
def c2h(σ:U.St)(i id:Nat):(σ.app none .unk [(i,.dead)]).mem id=if i=id then .dead else σ.mem id:=by
 unfold St.app St.put St.mem;simp [cons_append,nil_append];have e:lk id ((i,(MC.dead))::σ.me)=bif Nat.beq i id then some _ else lk id _:=rfl;rw[e];by_cases h:i=id;.simp_all
 .rw[if_neg h,show Nat.beq i id=false from by cases a:Nat.beq i id with|true=>simp_all|false=>rfl];rfl
def Rel.kill(h:Rel E Z π σ ρ w){i:Nat}(p:σ.mem i≠.never):Rel E (λb=>Z b\/MB (σ.mem i) (π i) b) π (σ.app none .unk [(i,.dead)]) ρ w:=by
 have j:cx Z π (σ.app none .unk [(i,.dead)]) w=cx Z π σ w:=by unfold cx;congr 1;funext a;unfold b7a;rw[c2h];grind
 have o:Rel E Z π (σ.app none .unk [(i,.dead)]) ρ w:=by
  refine⟨λt=>by rw[j];exact h.slot t,λa=>?_,λa b g=>?_,λa k b f e d=>?_,h.zlt,h.zin,h.zout,h.ext,λa l=>?_,h.tab⟩
  .rw[j,c2h];split;.exact trivial
   .exact h.mem a
  .rw[c2h]at g;split at g;.exact g.elim
   .exact h.own a b g
  .rw[c2h]at e d;split at e;.exact e.elim
   .split at d;.exact d.elim
    .exact h.dist a k b f e d
  .let⟨e,d⟩:=h.pin a l;refine⟨?_,d⟩;unfold b7a;rw[c2h];split;.simp_all
   .exact e
 refine o.fzN _ λb g=>?_;let⟨e,d,m⟩:=h.own i b g;refine⟨d,.inr m,λa c=>?_⟩;rw[c2h]at c;split at c;.exact c.elim
 .rename_i f;exact h.dist i a b f g c
def h3s(K:(Nat->A5)->O Deferred->World->Prop)(Q:Exit->(Nat->A5)->O Deferred->World->Prop):Exit->(Nat->A5)->O Deferred->World->Prop|.normal,ρ,a,w=>K ρ a w|e,ρ,a,w=>Q e ρ a w
def g0k(id:Nat)(Q:Exit->(Nat->A5)->O Deferred->World->Prop):Exit->(Nat->A5)->O Deferred->World->Prop|.exit a,ρ,b,w=>if a=id then Q .normal ρ b w else Q (.exit a) ρ b w|e,ρ,b,w=>Q e ρ b w
def WPD(P:Program)(n:Nat)(c:Code)(Q:Exit->(Nat->A5)->O Deferred->World->Prop)(ρ:Nat->A5)(g:O Deferred)(w:World):Prop:=c.wpIn (FR none) 9 P (λe a f=>∃b d,a=Frd n b d/\Q e b d f) (Frd n ρ g) w
def c8j(y:UOK U)(u:OKΦ P Φ)(B:P.follows .mixedOrders=true){o:O Nat}{R:Type}{c:Code}{A:Ann U.C}{k:Kont U R}{r:R}(C:a3z n c=true)(h:den P Φ o c A σ k=some r)(t:∀i,E.pin i↔i∈o){Q:Exit->(Nat->A5)->O Deferred->World->Prop}(x:KOKD E k r Q)(z:Rel E Z π σ ρ w){m:O Deferred}(F:Dn E Z w m):WPD P n c Q ρ m w:=by have q:∀{f:U.St}{l g d j},Rel _ l g f d j->Rel E l g f d j/\Dn E l j m:=λh=>⟨Rel.un z h,F.le (λb v=>h.zout b v) (h.ext.mono λb v G=>v.2 G)⟩;exact wpIn_mono ((a6v y u B c A σ k r C h (E.re Z w) (λi=>t i) (λ_=>False) ρ (λe d j=>Q e d m j) (λ_ h=>h.elim) ⟨λf l g d j _ p s=>x.norm f l g d m j (q p).1 (q p).2 s,λi f l g d j _ p s=>x.exit i f l g d m j (q p).1 (q p).2 s,λf l g d j _ p s=>x.ret f l g d m j (q p).1 (q p).2 s⟩ Z π ρ w (λ_ h=>h.elim) (z.re y)) _ m (.inl rfl)) λe a j⟨d,D,H⟩=>⟨d,m,D,H⟩
def BKS(P:Program)(e:FuncId->A3 (TypeId×U.C×Bool)):Prop:=∀g a c b,e g=some (a,c,b)->∃d,BackOK P b g a d (U.n c)/\(∀l:O (U.T c),b33 P a (.list c l:U.AV)=true)/\∀x:U.T c,b33 P d (inj c x)=true
def e4f{R:Type}{H:FuncId->A3 (TypeId×U.C×Bool)}{z:Bool}{t:Tmp}{K:(c:U.C)->O (U.T c)->U.St->A3 R}{r:R}(h:g4w H z σ t K=some r)(x:Rel E Z π σ ρ w):∃g tS c l k m e j,H g=some (tS,c,z)/\K c l e=some r/\ρ t=.func (.func g) #[] #[.pointer (some ⟨k,0,none⟩)]/\Mb w k tS [m]/\j k/\k9 (Rp c) (λb=>¬j b) w m l/\Rel E j π e ρ w/\∀b,Z b->j b:=by
 unfold g4w at h;split at h;.rename_i g i C;have d:=x.slot t;rw[C]at d;let⟨S,I,f⟩:=d;match S,f with
  |[Q],f=>
    have V:Q=π i:=(f.1).2.1;split at h
    .rename_i tS c M y b q s;have N:=x.mem i;rw[s]at N;let⟨k,B,D,A,L⟩:=N;have u:∀(l:O _),(Nat.beq y tS&&(M==z))=true->K c l (σ.app none .unk [(i,.dead)])=some r->k9 (Rp c) (λb=>¬Z b) w B l->∃g tS c l k m e j,H g=some (tS,c,z)/\K c l e=some r/\ρ t=.func (.func g) #[] #[.pointer (some ⟨k,0,none⟩)]/\Mb w k tS [m]/\j k/\k9 (Rp c) (λb=>¬j b) w m l/\Rel E j π e ρ w/\∀b,Z b->j b:=by intro l a W J;simp only[qB,beq_iff_eq]at a;have p:=a.2;have a:=qC a.1;subst a;subst p;refine⟨g,y,c,l,k,B,_,_,q,W,by grind,by rw[<-b1q J];exact A,.inr (by rw[s,D];rfl),J.weaken λb _ v hz=>v (.inl hz),(x.kill (by grind)),λb v=>.inl v⟩
     split at h
     .rename_i a;split at h;.rename_i l2 o;obtain⟨F,rfl⟩:=a3i (G:=λb=>¬Z b) (w:=w) o;subst F;exact u _ a h L
      .cases h
     .rename_i a;exact u [] a h (by rw[show B=.slice _ 0 0from L];exact k9.nil _ _ _)
     .cases h
    grind
 .rename_i g y c0 l0 C;have d:=x.slot t;rw[C]at d;let⟨bb,m,I,⟨T,Y⟩,A,hS⟩:=d;split at h;case h_2=>grind
  rename_i tS c M q;split at h;case h_2=>grind
  rename_i l a o;simp only[qB,beq_iff_eq]at a;have p:=a.2;have a:=qC a.1;subst a;subst p;obtain⟨F,rfl⟩:=a3i (G:=λb=>¬Z b) (w:=w) o;subst F;exact⟨g,y,_,_,bb,m,σ,Z,q,h,I,A,(Classical.byContradiction λX=>Y X),hS,x,λ_ v=>v⟩
 simp_all
def f8s{ps:Array Tmp}{c:A3 Tmp}{p1:Tmp}(h:psO ps.toList=some (c,p1)):ps=rfP c p1:=by let⟨l⟩:=ps;match l,h with|[a,b],h=>cases h;rfl|[a],h=>cases h;rfl
def e5j(hU:UOK U)(T:OKΦ P Φ)(hm:P.follows .mixedOrders=true){bk:FuncId->A3 (TypeId×U.C×Bool)}(hbk:BKS P bk){F:O Nat}{R:Type}:∀(c:Code)(v:Ann U.C)(σ:U.St)(k:Kont U R)(r:R),f3a n c=true->g0i P Φ bk F c v σ k=some r->∀(E:Env),(∀i,E.pin i↔i∈F)->∀Q,KOKD E k r Q->∀Z π ρ I w,Rel E Z π σ ρ w->Dn E Z w I->WPD P n c Q ρ I w:=by
 intro c;have d:∀(c:Code)(v:Ann U.C)(σ:U.St)(k:Kont U R)(r:R),a3z n c=true->(match d0p c with|true=>den P Φ F c v σ k|false=>none)=some r->∀(E:Env),(∀i,E.pin i↔i∈F)->∀Q,KOKD E k r Q->∀Z π ρ I w,Rel E Z π σ ρ w->Dn E Z w I->WPD P n c Q ρ I w:=by
  intro c v σ k r f h E u Q B Z π ρ I w G N;split at h;.exact c8j hU T hm f h u B G N
  simp_all
 induction c with
 |seq a b X ihb=>intro v σ k r f h E u Q B Z π ρ I w G N;simp [g0i]at h;simp [f3a]at f;cases hn:d0p _ with|true=>rw[hn]at h f;exact c8j hU T hm f h u B G N|false=>rw[hn]at h f;simp [qB]at f;refine wpIn_seq (wpIn_mono (X _ σ _ r f.1 h E u (h3s _ Q) ⟨λm y q o j C z H A=>ihb _ m k r f.2 A E u Q B y q o j C z H,λi m y q o j C z H A=>B.exit i m y q o j C z H A,λm y q o j C z H A=>B.ret m y q o j C z H A⟩ Z π ρ I w G N) ?_);rintro e a' C⟨o,j,rfl,S⟩;cases e<;>first|exact S|exact⟨o,j,rfl,S⟩
 |block V a X=>intro v σ k r f h E u Q B Z π ρ I w G N;simp [g0i]at h;simp [f3a]at f;cases hn:d0p a with|true=>rw[hn]at h f;exact c8j hU T hm f h u B G N|false=>
     rw[hn]at h f;refine wpIn_block (wpIn_mono (X v σ _ r f h E u (g0k V Q) ⟨λm y q o j C z H A=>B.norm m y q o j C z H A,λi m y q o j C z H A=>?_,λm y q o j C z H A=>B.ret m y q o j C z H A⟩ Z π ρ I w G N) ?_);.show(if i=V then Q _ o j C else Q _ o j C);have A:(match Nat.beq i V with|true=>k.norm m|false=>k.exit i m)=some r:=A;cases hb:Nat.beq i V with|true=>rw[hb]at A;rw[if_pos (qC hb)];exact B.norm m y q o j C z H A|false=>rw[hb]at A;rw[if_neg (Nat.ne_of_beq_eq_false hb)];exact B.exit i m y q o j C z H A
     .rintro e a' C⟨o,j,rfl,S⟩;cases e<;>first
       |exact⟨o,j,rfl,S⟩
       | (rename_i id';simp [g0k,Exit.inBlock]at S⊢;by_cases hid:id'=V;.simp [hid,if_true]at S⊢;exact⟨o,j,rfl,S⟩
          .simp [hid,if_false]at S⊢;exact⟨o,j,rfl,S⟩)
 |rangeFunc it ps as bd _ _=>
   intro v σ k r f h E u Q B Z π ρ I w G N;simp [g0i]at h;split at h
   .rename_i t p0 p1 inv al es an' hps;split at h
    .rename_i hap;let⟨g,tS,c,l,Bs,sv,σ1,Z1,hg,hden,hit,hbox,hBs,hl,hR1,hZ1⟩:=e4f h G;let⟨tE,hB,hfS,hfE⟩:=hbk g tS c _ hg;simp [f3a,qB,decide_eq_true_eq]at f;have hps':=f8s hps;subst hps';have hD1:=N.le hZ1 (Ext.refl _ _);have Y:∀(D:Nat),w.heap.size<=D->∀D'∈I,D'≠e94 D:=by
      obtain⟨Ds,rfl,_,hDs⟩:=N;intro D x D' hm e;obtain⟨D0,h0,rfl⟩:=List.mem_map.1 hm;have:=(qN.1 (hDs D0 h0).2.2).1;have e1:D0=D:=by injection e with e _;injection e
      omega
     refine f09 hU T hm hB (hfS l) hfE f.2.1.1 f.2.1.2 f.2.2.1 f.2.2.2 (λt J=>?_) (λt J=>c9h hap J) f.1 u hR1 hit hbox hBs hl hden ?_ ?_ ?_;.unfold wsR at J;cases p0 with|none=>simp [qO,qK,not_or]at J;exact⟨J.2.1,J.2.2,(λe=>by cases e),J.1⟩|some p=>simp [qO,qK,not_or]at J;exact⟨J.2.2.1,J.2.2.2,(λe=>J.1 (qH e).symm),J.2.1⟩
     .intro m y q W D z hz hE x M K L;exact B.norm m y q ρ _ W z ((hD1.le hz hE).cons M (Nat.le_trans G.ext.size x) K (Y D x)) L
     .intro V m y q W D z hz hE x M K L;exact B.exit V m y q ρ _ W z ((hD1.le hz hE).cons M (Nat.le_trans G.ext.size x) K (Y D x)) L
     .intro m y q W D z hz hE x M K L;exact B.ret m y q ρ _ W z ((hD1.le hz hE).cons M (Nat.le_trans G.ext.size x) K (Y D x)) L
    .cases h
   .cases h|skip=>exactλv σ k r f h=>d _ v σ k r f h|region V ops draw=>exactλv σ k r f h=>d _ v σ k r f h|cond c a b _ _=>exactλv σ k r f h=>d _ v σ k r f h|loop a _=>exactλv σ k r f h=>d _ v σ k r f h|exit V=>exactλv σ k r f h=>d _ v σ k r f h|scope a _=>exactλv σ k r f h=>d _ v σ k r f h|label l=>exactλv σ k r f h=>d _ v σ k r f h|goto l=>exactλv σ k r f h=>d _ v σ k r f h|ret=>exactλv σ k r f h=>d _ v σ k r f h|refuse s=>exactλv σ k r f h=>d _ v σ k r f h
end
section
variable {C:Type} {T:C -> Type}
def gI(k:IntKind):AV C T->A3 Int
 |.int a n=>match decEq a k with|.isTrue _=>some n|.isFalse _=>none
 |_=>none
def gB:AV C T->A3 Bool|.bool b=>some b|_=>none
def gS:AV C T->A3 A4|.str s=>some s|_=>none
def gV(a:DecidableEq C)(c:C):AV C T->A3 (T c)
 |.val b x=>match a b c with|.isTrue h=>some (h▸x)|.isFalse _=>none
 |_=>none
def gP(a:DecidableEq C)(c:C):AV C T->A3 (T c)
 |.rp (.val b x)=>match a b c with|.isTrue h=>some (h▸x)|.isFalse _=>none
 |_=>none
def gL(a:DecidableEq C)(c:C):AV C T->A3 (O (T c))
 |.nils=>some []|.list b l=>match a b c with|.isTrue h=>some (h▸l)|.isFalse _=>none
 |_=>none
end
def mkS{b d c:Type}(g:b->A3 d)(k:d->O b->A3 c):O b->A3 c|[]=>none|a::r=>Option.bind (g a) λx=>k x r
def mkE{b a:Type}(z:a):O b->A3 a|[]=>some z|_::_=>none
section
variable {U:Uni}
def h2d{a b:Type}{o:A3 a}{f:a->A3 b}{y:b}(h:Option.bind o f=some y):∃x,o=some x/\f x=some y:=by cases o with|none=>grind|some x=>simp_all
def h0y{b d c:Type}{g:b->A3 d}{k:d->O b->A3 c}{as:O b}{y:c}(h:mkS g k as=some y):∃a r x,as=a::r/\g a=some x/\k x r=some y:=by cases as with|nil=>cases h|cons a r=>let⟨x,e,h⟩:=h2d h;grind
def h00{b c:Type}{z y:c}{as:O b}(h:mkE z as=some y):as=[]/\z=y:=by cases as with|nil=>cases h;simp_all|cons a r=>cases h
def e7i{k:IntKind}{a:U.AV}{n:Int}(h:gI k a=some n):AEq a (.int k n):=by
 unfold gI at h;split at h
 .split at h;.rename_i b _;cases h;subst b;exact .inl rfl
  simp_all
 simp_all
def g76{a:U.AV}{b:Bool}(h:gB a=some b):AEq a (.bool b):=by
 unfold gB at h;split at h;.cases h;exact .inl rfl
 simp_all
def h0c{a:U.AV}{b:A4}(h:gS a=some b):AEq a (.str b):=by
 unfold gS at h;split at h;.cases h;exact .inl rfl
 simp_all
def g88{b:DecidableEq U.C}{c:U.C}{a:U.AV}{x:U.T c}(h:gV b c a=some x):AEq a (.val c x):=by
 unfold gV at h;split at h
 .split at h;.rename_i d _;cases h;subst d;exact .inl rfl
  simp_all
 simp_all
def h4a{b:DecidableEq U.C}{c:U.C}{a:U.AV}{x:U.T c}(h:gP b c a=some x):AEq a (.rp (.val c x)):=by
 unfold gP at h;split at h
 .split at h;.rename_i d _;cases h;subst d;exact .inl rfl
  simp_all
 simp_all
def g9w{b:DecidableEq U.C}{c:U.C}{a:U.AV}{l:O (U.T c)}(h:gL b c a=some l):AEq a (.list c l):=by
 unfold gL at h;split at h;.cases h;exact .inr ⟨rfl,c,rfl⟩
 .split at h;.rename_i d _;cases h;subst d;exact .inl rfl
  simp_all
 simp_all
end
structure Ar(n:Nat)(α:Type)where
 l:O α
 h:l.length=n
def f8f{a:Type}(l:O a)(i:Int)(y:a):(a8h l i y).length=l.length:=by unfold a8h;grind
def Ar.set{n:Nat}{a:Type}(x:Ar n a)(i:Int)(y:a):Ar n a:=⟨a8h x.l i y,by rw[f8f];exact x.h⟩
def Ar.gt{n:Nat}{a:Type}(z:a)(x:Ar n a)(i:Int):a:=match c7 x.l i with|some y=>y|none=>z
def Ar.gt_ok{n:Nat}{a:Type}{z:a}{x:Ar n a}{i:Int}{y:a}(h:c7 x.l i=some y):Ar.gt z x i=y:=by unfold Ar.gt;rw[h]
def arZ{a:Type}(n:Nat)(y:a):Ar n a:=⟨List.replicate n y,by simp⟩
def h1p{b c:Type}(g:b->A3 c):O b->A3 (O c)|[]=>some []|a::r=>match g a with|some x=>(match h1p g r with|some l=>some (x::l)|none=>none)|none=>none
def mkA{a b:Type}(g:a->A3 b)(n:Nat)(as:O a):A3 (Ar n b):=match h1p g as with|some l=>(match Nat.decEq l.length n with|.isTrue h=>some ⟨l,h⟩|.isFalse _=>none)|none=>none
section
variable {U:Uni}
def e7f{b:Type}{g:U.AV->A3 b}{f:b->U.AV}(c:∀a x,g a=some x->AEq a (f x)):∀{as:O U.AV}{l:O b},h1p g as=some l->y7 (AEq (U:=U)) as (l.map f)
 |[],l,h=>by cases h;trivial|a::as,l,h=>by
   simp [h1p]at h;split at h
   .rename_i x d;split at h;.rename_i j e;cases h;exact⟨c _ _ d,e7f c e⟩
    simp_all
   simp_all
def c6w{b:Type}{g:U.AV->A3 b}{f:b->U.AV}(c:∀a x,g a=some x->AEq a (f x)){n:Nat}{as:O U.AV}{y:Ar n b}(h:mkA g n as=some y):y7 (AEq (U:=U)) as (y.l.map f):=by
 unfold mkA at h;split at h
 .rename_i l d;split at h;.cases h;exact e7f c d
  simp_all
 simp_all
def g3z{n:Nat}{b:Type}(x:Ar n b){f:b->U.AV}{o:A3 U.C}(h:∀y,a07 (f y)=o):(x.l.map f).map a07=List.replicate n o:=by obtain⟨l,c⟩:=x;subst c;induction l with|nil=>rfl|cons a l d=>grind
def f1p{n:Nat}{a:Type}(x:Ar n a){f:a->U.AV}{p:U.AV->Bool}(h:∀y,p (f y)=true):(x.l.map f).all p=true:=by simp_all
def a2m(k:UOK U){P:Program}{Φ:Phi U}(c:OKΦ P Φ)(i:P.follows .mixedOrders=true){f:FuncId}{fn:Func}{fe:Fent U}(j:P.funcs[f]?=some fn)(a:Ress U fe.s.rs×Outs U fe.s.ps->fe.B)(e:Ann U.C)(m:fn.body=some (fn.body.getD .skip))(g:(a3z fn.ntmps (fn.body.getD .skip)&&c1m fn.ntmps fn.results.toList&&(decide (npK fe.s.ps<=fn.ntmps)&&b4o fe.s.ps))=true)(d:∀p,fe.wr (a p)=p)(l:∀x,c5v P Φ fe.s a fn e x=fe.F x):Spec P f fe:=g4r k c i a e j m g d λx b h=>(l x).trans h
def h20(P:Program):O (Nat×Fent U)->Prop|[]=>True|q::r=>c9b P q.1 q.2/\h20 P r
def f5f:O (PK U.C)->O U.AV->Bool|.cl f _::a,.clo d _::c=>Nat.beq f d&&f5f a c|.cl _ _::_,_=>false|.bn f _::a,.bnd d _::c=>Nat.beq f d&&f5f a c|.bn _ _::_,_=>false|.km f _::a,.clo d _::c=>Nat.beq f d&&f5f a c|.km _ _::_,_=>false|.vl f _ _::a,.clo d _::c=>Nat.beq f d&&f5f a c|.vl f _ _::a,.vl d _ _ _::c=>Nat.beq f d&&f5f a c|.vl _ _ _::_,_=>false|_::a,_::c=>f5f a c|_,_=>true
def lkF(t:Nat)(as:O U.AV):O (Nat×Fent U)->A3 (Fent U)|[]=>none|(k,a)::r=>bif Nat.beq k t&&f5f a.s.ps as then some a else lkF t as r
def okl{P:Program}:∀{L:O (Nat×Fent U)},h20 P L->OKΦ P λf as=>lkF f as L|[],_,f,as,c,h=>by cases h|(i,a)::r,d,f,as,c,h=>by have h:(bif Nat.beq i f&&f5f _ as then some a else lkF f as r)=some c:=h;cases b:Nat.beq i f&&f5f _ as with|true=>rw[b]at h;simp only[qB]at b;obtain rfl:=qC b.1;obtain rfl:=qH h;exact d.1|false=>rw[b]at h;exact okl d.2 f as c h
def g7j(i:UOK U){P:Program}(d:P.follows .mixedOrders=true){f:FuncId}{fn:Func}{fe:Fent U}(L:O (Nat×Fent U))(g:h20 P L)(e:P.funcs[f]?=some fn)(a:Ress U fe.s.rs×Outs U fe.s.ps->fe.B)(c:Ann U.C)(k:fn.body=some (fn.body.getD .skip))(h:(a3z fn.ntmps (fn.body.getD .skip)&&c1m fn.ntmps fn.results.toList&&(decide (npK fe.s.ps<=fn.ntmps)&&b4o fe.s.ps))=true)(b:∀p,fe.wr (a p)=p)(j:∀x,c5v P (λf as=>lkF f as L) fe.s a fn c x=fe.F x):Spec P f fe:=a2m i (okl g) d e a c k h b j
end
end Go.SX
namespace Go.PL
open Go
def g6v(s:ByteArray)(c:Int):Int:=match(List.range s.size).find? λi=>s[i]! ==c.toNat.toUInt8 with|some i=>(i:Int)|none=>-1
def f5t{P:Program}{w:World}(s:ByteArray)(c:Int):(Extern.BytealgIndexByte.indexByte #[.string s,.int .u8 c]).run P w=.ok (.int .i64 (g6v s c)) w:=by change Sem.run P (do let b<-Extern.Bytes.bytesOf (.string s)let a<-Extern.Bytes.asByte (.int .u8 c)match(List.range _).find? _ with|some i=>pure (goInt i)|none=>pure _) w=_;simp only[Extern.Bytes.bytesOf,Extern.Bytes.asByte,Sem.run_bind,Sem.run_pure,Result.andThen];unfold g6v;split<;>simp_all[goInt,Sem.run_pure]
end Go.PL
namespace Go.SX
open Go Go.PL
section
variable {P:Program} {U:Uni}
def h0w{ps:O (PK U.C)}{c:U.C}{Z G:Nat->Prop}{w:World}{us:O A5}{o:Outs U ps}{x:U.T c}{u:A5}(d:a1p (cz Z w) (inj c x) u)(e:OR (czO Z ps us w) ps o us)(g:ioB ps us=[]):Post (⟨ps,[.v c]⟩:Sig U) Z G w us ((x,()),o) u w:=⟨⟨Z,[u],us,rfl,λ_ h=>h,λ_ h=>.inl h,Ext.refl _ _,rfl,λ_ _ _ _=>rfl,⟨d,trivial⟩,e,(λv a=>by have a:v∈([])++ioB ps us:=a;simp_all),(λi j v f b _ a=>by have a:(([])++ioB ps us)[i]?=some v:=a;simp_all)⟩⟩
def f6g{f:FuncId}{fn:Func}(u:P.funcs[f]?=some fn)(s:(fn.name== "runtime.NumGoroutine")=false)(B:fn.body.isNone=true)(p:Extern.findNext fn=none)(z:Extern.find fn=some Extern.BytealgIndexByte.indexByte){a b c:U.C}(g:U.T a->A4)(h:U.T b->Int)(i:Int->U.T c)(A:∀x,(inj a x:U.AV)=.str (g x))(m:∀x,(inj b x:U.AV)=.int .u8 (h x))(t:∀n,(inj c (i n):U.AV)=.int .i64 n):d6d P f (⟨⟨[.v a,.v b],[.v c]⟩,Int,λx=>some (g6v (g x.1) (h x.2.1)),λn=>((i n,()),()),none⟩:Fent U):=by intro C r q Z G w y o l;obtain rfl:=qH q;match y,o with|[k,j],_=>have d:AVR _ (inj a _) k:=l.slot 0;have e:AVR _ (inj b _) j:=l.slot 1;rw[A]at d;rw[m]at e;refine⟨.int _ _,w,?_,h0w (by rw[t];rfl) trivial rfl⟩;show(callFunc f #[k,j]).run P w=_;rw[d,e,run_callFunc_extern u s B p z,f5t];rfl
end
end Go.SX
namespace Go.PL
def f0f{a:Type}[Inhabited a](b:a->a->Bool)(l:O a):A3 (O a):=if l.length<=1then some l else if l.length<4611686018427387904then some (Go.Sort.pdq b l.toArray 0 l.length (Lib.bitLen l.length) true true).toList else none
def g2t(x:Int):O Int->O Int|[]=>[x]|y::l=>if x<=y then x::y::l else y::g2t x l
def b89:O Int->O Int|[]=>[]|x::l=>g2t x (b89 l)
def c9o(x:Int):∀l,(g2t x l).Perm (x::l)
 |[]=>.refl _|y::l=>by
   unfold g2t;split;.exact .refl _
   .exact((c9o x l).cons y).trans (.swap x y l)
def a8p:∀l:O Int,(b89 l).Perm l|[]=>.refl _|x::l=>(c9o x _).trans ((a8p l).cons x)
def e98(x:Int):∀{l:O Int},l.Pairwise (.<=.)->(g2t x l).Pairwise (.<=.)
 |[],_=>by simp[g2t]|y::l,h=>by
   unfold g2t;let⟨b,d⟩:=List.pairwise_cons.1 h;split;.exact List.pairwise_cons.2 ⟨λz a=>by rcases qO.1 a with rfl|a;omega;have:=b z a;omega,h⟩
   .refine List.pairwise_cons.2 ⟨λz a=>?_,e98 x d⟩;rcases qO.1 ((c9o x l).mem_iff.1 a)with rfl|a;.omega
    .exact b z a
def e2r:∀l:O Int,(b89 l).Pairwise (.<=.)|[]=>.nil|x::l=>e98 x (e2r l)
def e37(l:O Int):l.mergeSort (λx y=>decide (x<=y))=b89 l:=by have h:=pairwise_mergeSort (le:=λx y=>decide (x<=y)) (by simp;omega) (by simp;omega) l;exact List.Perm.eq_of_pairwise (λa b _ _ c d=>by omega) (h.imp λh=>by simpa using h) (e2r l) ((mergeSort_perm l _).trans (a8p l).symm)
def b8s(l:O Int):A3 (O Int):=if l.length<=1000000then some (b89 l)else none
def c4v(n:Int):Bool:=decide (-9223372036854775808<=n)&&decide (n<=9223372036854775807)
def c8c(l:O (Int×Int)):A3 (O Int):=if(l.all λq=>c4v q.1)=true/\l.length<=1000000then some (b89 (l.map (·.1)))else none
end Go.PL
namespace Go.SX
open Go Go.PL
def knS{P:Program}{U:Uni}{f:FuncId}{fe:Fent U}(a:fe.kc=none)(h:Spec P f fe/\b44 P f):c9b P f fe:=by unfold c9b;rw[a];exact .inl h
def knX{P:Program}{U:Uni}{f:FuncId}{fe:Fent U}(a:fe.kc=none)(h:d6d P f fe):c9b P f fe:=by unfold c9b;rw[a];exact .inr h
structure Kn(P:Program)(U:Uni)where
 f:Nat
 fe:Fent U
 ok:c9b P f fe
def Kn.e{P:Program}{U:Uni}(k:Kn P U):Nat×Fent U:=(k.f,k.fe)
def f8d{P:Program}{U:Uni}:∀a:O (Kn P U),h20 P (a.map Kn.e)|[]=>trivial|k::a=>⟨k.ok,f8d a⟩
def a14{P:Program}{f:Nat}{fn:Func}(d:P.funcs[f]?=some fn)(a:fn.body.isSome=true)(hn:(!fn.name== "runtime.NumGoroutine")=true):b44 P f:=by
 intro b w;have g:(fn.name== "runtime.NumGoroutine")=false:=by simpa using hn
 have e:fn.body.isNone=false:=by cases h:fn.body with|none=>rw[h]at a;cases a|some c=>rfl
 change Sem.run P (match P.funcs[f]?with|none=>_|some fn=>_) w=_;rw[d];simp only[g,e];rfl
def c67(fn:Func){U:Uni}(s:Sig U):Bool:=(fn.body.isSome&&!fn.name== "runtime.NumGoroutine")&&(a3z fn.ntmps (fn.body.getD .skip)&&c1m fn.ntmps fn.results.toList&&(decide (npK s.ps<=fn.ntmps)&&b4o s.ps))
def d8{fn:Func}{U:Uni}{s:Sig U}(h:c67 fn s=true):fn.body=some (fn.body.getD .skip)/\(a3z fn.ntmps (fn.body.getD .skip)&&c1m fn.ntmps fn.results.toList&&(decide (npK s.ps<=fn.ntmps)&&b4o s.ps))=true:=by unfold c67 at h;rw[qB,qB]at h;refine⟨?_,h.2⟩;cases a:fn.body with|none=>rw[a]at h;exact absurd h.1.1 (by simp)|some c=>rfl
def d5o{fn:Func}{U:Uni}{s:Sig U}(h:c67 fn s=true):fn.body.isSome=true/\(!fn.name== "runtime.NumGoroutine")=true:=by unfold c67 at h;rw[qB,qB]at h;exact h.1
def kn{P:Program}{U:Uni}(j:UOK U)(l:P.follows .mixedOrders=true)(f:Nat)(fn:Func)(s:Sig U){B:Type}(F:Args U s.ps->A3 B)(b:B->Ress U s.rs×Outs U s.ps)(c:Ress U s.rs×Outs U s.ps->B)(i:Ann U.C)(e:O (Kn P U))(h:P.funcs[f]?=some fn:=by kernel_rfl)(a:c67 fn s=true:=by kernel_rfl)(d:∀p,b (c p)=p:=by intro _;rfl)(k:∀x,c5v P (λg as=>lkF g as (e.map Kn.e)) s c fn i x=F x:=by intro _;kernel_rfl):Kn P U:=⟨f,⟨s,B,F,b,none⟩,knS rfl ⟨g7j j l (fe:=⟨s,B,F,b,none⟩) (e.map Kn.e) (f8d e) h c i (d8 a).1 (d8 a).2 d k,a14 h (d5o a).1 (d5o a).2⟩⟩
abbrev cur1{α ω:Type}(f:α→ω)(x:α×Unit):ω:=f x.1
abbrev cur2{α β ω:Type}(f:α→β→ω)(x:α×β×Unit):ω:=f x.1 x.2.1
abbrev cur3{α β γ ω:Type}(f:α→β→γ→ω)(x:α×β×γ×Unit):ω:=f x.1 x.2.1 x.2.2.1
abbrev cur4{α β γ δ ω:Type}(f:α→β→γ→δ→ω)(x:α×β×γ×δ×Unit):ω:=f x.1 x.2.1 x.2.2.1 x.2.2.2.1
abbrev cur5{α β γ δ ε ω:Type}(f:α→β→γ→δ→ε→ω)(x:α×β×γ×δ×ε×Unit):ω:=f x.1 x.2.1 x.2.2.1 x.2.2.2.1 x.2.2.2.2.1
abbrev cur6{α β γ δ ε ζ ω:Type}(f:α→β→γ→δ→ε→ζ→ω)(x:α×β×γ×δ×ε×ζ×Unit):ω:=f x.1 x.2.1 x.2.2.1 x.2.2.2.1 x.2.2.2.2.1 x.2.2.2.2.2.1
abbrev w1{α:Type}(b:α):(α×Unit)×Unit:=((b,()),())
abbrev u1{α:Type}(p:(α×Unit)×Unit):α:=p.1.1
abbrev w2{α β:Type}(b:α×β):(α×β×Unit)×Unit:=((b.1,b.2,()),())
abbrev u2{α β:Type}(p:(α×β×Unit)×Unit):α×β:=(p.1.1,p.1.2.1)
abbrev w3{α β γ:Type}(b:α×β×γ):(α×β×γ×Unit)×Unit:=((b.1,b.2.1,b.2.2,()),())
abbrev u3{α β γ:Type}(p:(α×β×γ×Unit)×Unit):α×β×γ:=(p.1.1,p.1.2.1,p.1.2.2.1)
def sk{C:Type}:Nat->Ann C->Ann C|0,a=>a|n+1,a=>.s .n (sk n a)
end Go.SX
namespace Go.SX
open Go Go.PL Go.RowKit
section
variable {U:Uni} {P:Program} {Φ:Phi U} {n:Nat}
def d2f(i:UOK U){E:Env}{Z:Nat->Prop}{l:Nat->A5}{σ:U.St}{ρ:Nat->A5}{fn:Func}{a:Array A5}{R:Ending->World->Prop}(b:∀w,Rel E Z l σ ρ w->∃v,(results fn a).run P w=.ok v w/\R (.returned v) w):∀(c:O Nat)(w:World),Rel E Z l σ ρ w->c.Nodup->(∀D∈c,E.w0.heap.size<=D/\w.heap[D]?=some (.deferred (some [])))->LeavesInM Fence.wide 9 P fn a R (c.map e94) .returning w|[],w,f,_,_=>b w f|D::c,w,f,r,j=>by let⟨m,k⟩:=j D qI;let⟨d,g⟩:=List.nodup_cons.1 r;refine⟨by simp,.inl ⟨D,w.putObj D _,rfl,run_takeDeferred k,?_⟩⟩;refine d2f i b c _ (f.pu i m k rfl) g λo h=>?_;let⟨q,s⟩:=j o (qJ _ h);exact⟨q,(World.putObj_heap_other (λe=>d (by rw[<-e];exact h))).trans s⟩
def g4t(P:Program)(Φ:Phi U)(e:FuncId->A3 (TypeId×U.C×Bool))(s:Sig U){B:Type}(b:Ress U s.rs×Outs U s.ps->B)(fn:Func)(d:Ann U.C)(x:Args U s.ps):A3 B:=match fn.body with|some c=>g0i P Φ e (ioI 0 s.ps) c d (a02 0 s.ps x) ⟨λa=>unK b (e61 P s fn.results.toList a),λ_ _=>none,λa=>unK b (e61 P s fn.results.toList a)⟩|none=>none
def f6o(N:UOK U)(L:OKΦ P Φ)(B:P.follows .mixedOrders=true){T:FuncId->A3 (TypeId×U.C×Bool)}(H:BKS P T){f:FuncId}{fn:Func}{c:Code}{fe:Fent U}(C:Ress U fe.s.rs×Outs U fe.s.ps->fe.B)(R:Ann U.C)(hf:P.funcs[f]?=some fn)(S:fn.body=some c)(z:(f3a fn.ntmps c&&c1m fn.ntmps fn.results.toList&&(decide (npK fe.s.ps<=fn.ntmps)&&b4o fe.s.ps))=true)(K:∀p,fe.wr (C p)=p)(X:∀x b,fe.F x=some b->g4t P Φ T fe.s C fn R x=some b):Spec P f fe:=by
 intro xs b hr Z G w M A hR;simp [qB,decide_eq_true_eq]at z;have F:=X xs b hr;unfold g4t at F;rw[S]at F;have t:∀{Q:U.St},unK C (e61 P _ _ Q)=some b->e61 P _ fn.results.toList Q=some (fe.wr b):=λ{Q}h=>by
  unfold unK at h;split at h;.rename_i p E;cases h;rw[E,K]
  .cases h
 refine callsIn_wide.1 (callsIn_of_wp_marks (n:=9) hf S trivial ?_ rfl);rw[c9e _ (by rw[length_take];exact Nat.le_trans (Nat.min_le_left _ _) z.2.1)];have k:∀{j:U.St}{q l g d m},Rel ⟨w,G,Z,c0f fe.s.ps,c7a M⟩ q l j g m->Dn ⟨w,G,Z,c0f fe.s.ps,c7a M⟩ q m d->unK C (e61 P _ fn.results.toList j)=some b->LeavesInM Fence.wide 9 P fn (Frd fn.ntmps g d).tmps (λe J=>∃u,e=.returned u/\Post _ Z G w M (fe.wr b) u J) d .returning m:=by intro j q l g d m s V o;obtain⟨W,rfl,hn,y⟩:=V;exact d2f N (λw2 r=>by let⟨v,hv,E⟩:=c2g N A (by have I:=z.2.2;unfold b4o at I;simp [qB]at I;exact I.1) r z.1.2 (t o);exact⟨v,hv,v,rfl,E⟩) W m s hn λD B=>⟨(y D B).2.1,(y D B).2.2⟩
 refine wpIn_mono (e5j N L B H c R _ _ b z.1.1 F _ (λi=>by have:=c8q fe.s.ps 0 i;simp [Nat.zero_le,true_and,Nat.sub_zero]at this;exact this.symm) (λe g d m=>(e=.normal\/e=.ret)/\LeavesInM _ 9 P fn (Frd _ g d).tmps _ d _ m) ⟨λj q l g d m s r o=>⟨.inl rfl,k s r o⟩,λi j q l g d m s r o=>(by cases o),λj q l g d m s r o=>⟨.inr rfl,k s r o⟩⟩ Z _ _ [] w hR ⟨[],rfl,nodup_nil,λD h=>by cases h⟩) ?_;rintro e a m⟨g,d,rfl,Y,hl⟩;rcases Y with rfl|rfl<;>exact hl
end
def e9k(fn:Func){U:Uni}(s:Sig U):Bool:=(fn.body.isSome&&!fn.name== "runtime.NumGoroutine")&&(f3a fn.ntmps (fn.body.getD .skip)&&c1m fn.ntmps fn.results.toList&&(decide (npK s.ps<=fn.ntmps)&&b4o s.ps))
def d1o{fn:Func}{U:Uni}{s:Sig U}(h:e9k fn s=true):fn.body=some (fn.body.getD .skip)/\(f3a fn.ntmps (fn.body.getD .skip)&&c1m fn.ntmps fn.results.toList&&(decide (npK s.ps<=fn.ntmps)&&b4o s.ps))=true:=by unfold e9k at h;rw[qB,qB]at h;refine⟨?_,h.2⟩;cases a:fn.body with|none=>rw[a]at h;exact absurd h.1.1 (by simp)|some c=>rfl
def d2o{fn:Func}{U:Uni}{s:Sig U}(h:e9k fn s=true):fn.body.isSome=true/\(!fn.name== "runtime.NumGoroutine")=true:=by unfold e9k at h;rw[qB,qB]at h;exact h.1
def lkB{U:Uni}:O (Nat×TypeId×U.C×Bool)->FuncId->A3 (TypeId×U.C×Bool)|[],_=>none|(i,q)::l,g=>bif Nat.beq i g then some q else lkB l g
def h1j(P:Program){U:Uni}:O (Nat×TypeId×U.C×Bool)->Prop|[]=>True|(i,b,c,e)::l=>(∃a,BackOK P e i b a (U.n c)/\(∀l:O (U.T c),b33 P b (.list c l:U.AV)=true)/\∀x:U.T c,b33 P a (inj c x)=true)/\h1j P l
def g14{P:Program}{U:Uni}:∀{l:O (Nat×TypeId×U.C×Bool)},h1j P l->BKS P (lkB l)|[],_,g,b,c,e,h=>by cases h|(i,t,k,j)::l,d,g,b,c,e,h=>by have h:(bif Nat.beq i g then some _ else lkB l g)=some _:=h;cases a:Nat.beq i g with|true=>rw[a]at h;obtain rfl:=qC a;cases h;exact d.1|false=>rw[a]at h;exact g14 d.2 g b c e h
def knR{P:Program}{U:Uni}(q:UOK U)(m:P.follows .mixedOrders=true)(l:O (Nat×TypeId×U.C×Bool))(n:h1j P l)(f:Nat)(fn:Func)(s:Sig U){B:Type}(F:Args U s.ps->A3 B)(d:B->Ress U s.rs×Outs U s.ps)(e:Ress U s.rs×Outs U s.ps->B)(j:Ann U.C)(k:O (Kn P U))(i:P.funcs[f]?=some fn:=by kernel_rfl)(a:e9k fn s=true:=by kernel_rfl)(c:∀p,d (e p)=p:=by intro _;rfl)(o:∀x,g4t P (λg as=>lkF g as (k.map Kn.e)) (lkB l) s e fn j x=F x:=by intro _;kernel_rfl):Kn P U:=⟨f,⟨s,B,F,d,none⟩,knS rfl ⟨f6o q (okl (f8d k)) m (g14 n) (fe:=⟨s,B,F,d,none⟩) e j i (d1o a).1 (d1o a).2 c λx b h=>(o x).trans h,a14 i (d2o a).1 (d2o a).2⟩⟩
def g3q{P:Program}{n m:Nat}{r:A3 Nat}{a:O Oper}(g:Plan.okTmps a n=true)(e:Plan.okSel a=true){Q:Exit->Act->World->Prop}{ρ:Nat->A5}{c:O Deferred}{w w':World}{i:Nat}{rest:O Nat}{o:Oper}{v:A5}(d:a[i]?=some o)(f:o.guard=none)(h:(execOp (ev ρ) o).run P w=.ok (.value v) w')(j:wpOpsIn (FR r) m P a.toArray Q rest (Frd n (b20 ρ o.dst v) c) w'):wpOpsIn (FR r) m P a.toArray Q (i::rest) (Frd n ρ c) w:=by
 rw[wpOpsIn_cons];unfold wpOpIn;simp [getElem?_toArray,d];rw[if_pos (by simp[Region.wanted,f])];refine a0k.wp (K:=λu b=>u=v/\b=w') ?_ ?_;.unfold a0k;rw[c0s g e d ρ];simp_all
 .rintro u b⟨rfl,rfl⟩;rw[c6r];omega
def f8w{P:Program}{t:TypeId}{u:A5}{w:World}(h:u.cells.toList=[u]):(Instr.box t u).run P w=.ok (.pointer (some ⟨w.heap.size,0,none⟩)) (w.alloc (.cells #[u] t)):=by simp[Instr.box,newVar,newRow,(Array.ext' (by omega))]
def bq0(tS tF:TypeId)(p1:String):O Oper:=[{dst:=some 1,op:=.box tS (.tmp 0),type:=0,pos:=p1,after:=#[],guard:=none},{dst:=some 2,op:=.assign (.const .nilFunc),type:=tF,pos:=p1,after:=#[],guard:=none}]
def bq1(tF tG:TypeId)(g:FuncId)(p2:String):O Oper:=[{dst:=some 3,op:=.makeFunc (.func g) #[] #[.tmp 1],type:=tG,pos:=p2,after:=#[],guard:=none},{dst:=some 2,op:=.assign (.tmp 3),type:=tF,pos:=p2,after:=#[{on:=0,ground:=.data},{on:=0,ground:=.phase}],guard:=none}]
def h0j(tS tF tG:TypeId)(g:FuncId)(p1 p2:String):Code:=.seq (.region 0 (bq0 tS tF p1).toArray false) (.seq (.region 1 (bq1 tF tG g p2).toArray false) .ret)
def c5j{P:Program}{f g:FuncId}{fn:Func}{tS tF tG:TypeId}{p1 p2:String}(d:b44 P f)(b:P.funcs[f]?=some fn)(e:fn.body=some (h0j tS tF tG g p1 p2))(hn:fn.ntmps=4)(a:fn.results=#[.tmp 2]):b9c P f g tS:=by refine⟨d,λu c w=>callsIn_wide.1 (callsIn_of_wp (n:=9) b e trivial ?_ rfl)⟩;have h:=c9e (n:=4) [u] (by simp);rw[show({tmps:=#[u]++Array.replicate _ _,defers:=[]})=Frd 4 (λt=>[u].getD t undef) []from by simp_all];refine wpIn_seq (wpIn_region ?_);refine g3q rfl rfl rfl rfl (h2i rfl (f8w c)) ?_;refine a1q rfl rfl rfl rfl (b7t rfl) ?_;refine wpIn_seq (wpIn_region ?_);refine a1q rfl rfl rfl rfl (v:=.func (.func g) #[] #[.pointer (some ⟨w.heap.size,0,none⟩)]) (by simp[YV,execOp,Instr.makeFunc,ev,b20,upd]) ?_;refine a1q rfl rfl rfl rfl (b7t rfl) ?_;refine wpIn_ret ⟨rfl,_,by simp[results,a,Frd,b20,upd];rfl,rfl,rfl⟩
def cl0(t:TypeId):O Oper:=[{dst:=some 2,op:=.assign (.const (.slice none 0 0)),type:=t,pos:= "slices.go:355",after:=#[],guard:=none}]
def cl1(t b:TypeId):O Oper:=[{dst:=some 3,op:=.move (.tmp 0),type:=t,pos:= "slices.go:357",after:=#[],guard:=none},{dst:=some 4,op:=.binOp .eql t (.tmp 3) (.const (.slice none 0 0)) t,type:=b,pos:= "slices.go:357",after:=#[{on:=0,ground:=.data}],guard:=none}]
def cl2(t:TypeId):O Oper:=[{dst:=some 2,op:=.assign (.const (.slice none 0 0)),type:=t,pos:= "slices.go:358",after:=#[],guard:=none}]
def cl3(t:TypeId):O Oper:=[{dst:=some 5,op:=.buildSlice t 0 #[],type:=t,pos:= "slices.go:362",after:=#[],guard:=none},{dst:=some 6,op:=.move (.tmp 0),type:=t,pos:= "slices.go:362",after:=#[],guard:=none},{dst:=some 7,op:=.call {callee:=.builtin .append,args:=#[.tmp 5,.tmp 6],argTypes:=#[t,t]},type:=t,pos:= "slices.go:362",after:=#[{on:=0,ground:=.data},{on:=1,ground:=.data}],guard:=none},{dst:=some 2,op:=.assign (.tmp 7),type:=t,pos:= "slices.go:362",after:=#[{on:=2,ground:=.data},{on:=2,ground:=.chain},{on:=0,ground:=.phase},{on:=1,ground:=.phase},{on:=2,ground:=.phase}],guard:=none}]
def e3e(t:TypeId):Code:=.seq (.region 3 (cl3 t).toArray false) .ret
def h0d(t b:TypeId):Code:=.seq (.region 0 (cl0 t).toArray false) (.seq (.seq (.region 1 (cl1 t b).toArray false) (.cond (.tmp 4) (.seq (.region 2 (cl2 t).toArray false) .ret) .skip)) (e3e t))
def g0q{P:Program}{b:Operand->A5}{w:World}{d:A3 Tmp}{ty t j e:TypeId}{x y:Operand}{ps:String}{af:Array Edge}{g:A3 (Nat×Bool)}{a:A3 Addr}{n c:Nat}{q:Bool}(f:P.underlying t=some (.slice e))(i:b x=.slice a n c)(k:b y=.slice none 0 0)(h:a.isNone=q):YV P b w ⟨d,.binOp .eql t x y j,ty,ps,af,g⟩ (.bool q):=by subst h;simp[YV,execOp,i,k,eqGuard,binOp,run_equal_slice_nil w t e a n c f]
section
variable {U:Uni} {P:Program}
@[reducible] def clS(U:Uni)(e:TypeId)(c:U.C):Sig U:=⟨[.ls c],[.ow e c]⟩
def h3w(c:U.C)(l:O (U.T c)):U.St:=(((a02 0 [PK.ls c] ((l,()):Args U [PK.ls c])).app (some 2) .nils []).app (some 3) .unk []).app (some 4) .unk []
def clK(P:Program)(e:TypeId)(c:U.C)(σ:U.St):A3 (O (U.T c)):=unK (s:=clS U e c) (λp=>p.1.1) (e61 P (clS U e c) [.tmp 2] σ)
def b6g(D:UOK U)(hm:P.follows .mixedOrders=true){f:FuncId}{fn:Func}{t e b:TypeId}{c:U.C}{N:Nat}(Y:P.funcs[f]?=some fn)(V:fn.body=some (h0d t b))(hn:fn.ntmps=8)(j:fn.results=#[.tmp 2])(I:P.underlying t=some (.slice e))(z:(a3z 8 (e3e t)&&c1m 8 [.tmp 2])=true)(Q:e61 P (clS U e c) [.tmp 2] ((h3w c []).app (some 2) .nils [])=some (w1 []))(hd:∀l:O (U.T c),den P (λ_ _=>none) [] (e3e t) .n (h3w c l) ⟨λσ=>clK P e c σ,λ_ _=>none,λσ=>clK P e c σ⟩=(a4n N [] l).bind λr=>some r):Spec P f (⟨clS U e c,O (U.T c),λx=>a4n N [] x.1,w1,none⟩:Fent U):=by intro xs r y Z G w us g M;rw[qB]at z;match us,g with
 |[u],g=>
   have y:a4n N [] _=some r:=y;refine callsIn_wide.1 (callsIn_of_wp (n:=9) Y V trivial ?_ rfl);rw[show({tmps:=(([u].take _).toArray)++Array.replicate _ _,defers:=[]}:Act)=Frd 8 _ []from by rw[hn];exact (c9e (n:=8) [u] (by simp))];have m:Ext noG w w:=Ext.refl _ _;refine wpIn_seq (wpIn_region ?_);refine a1q rfl rfl rfl rfl (b7t rfl) ?_;refine wpIn_seq (wpIn_seq (wpIn_region ?_));refine a1q rfl rfl rfl rfl (c08 rfl) ?_;have A:∀q,Rel _ Z _ (h3w c _) (b20 (b20 _ _ u) _ (.bool q)) w:=λq=>((M.val m (a:=.nils) rfl).val m (a:=.unk) trivial).val m trivial;have p:c2u (clS U e c).ps 0 (clS U e c).ps=true:=rfl;rcases (M.slot 0) with⟨rfl,T⟩|⟨a,W,rfl,_⟩
   .refine a1q rfl rfl rfl rfl (g0q I rfl rfl rfl) ?_;refine wpIn_cond_true (by rfl) ?_;refine wpIn_seq (wpIn_region ?_);refine a1q rfl rfl rfl rfl (b7t rfl) ?_;have K:=(A true).val m (d:=some 2) (a:=.nils) rfl;rw[T]at K y;obtain rfl:r=[]:=by unfold a4n at y;split at y<;>cases y;rfl
    obtain⟨v,H,E⟩:=c2g D g p K (by rw[j];exact z.2) (by rw[j];omega);exact wpIn_ret ⟨rfl,v,H,v,rfl,E⟩
   .refine a1q rfl rfl rfl rfl (g0q I rfl rfl rfl) ?_;refine wpIn_cond_false (by rfl) (wpIn_skip ?_);have o:∀{σ:U.St},clK P e c σ=some r->e61 P (clS U e c) fn.results.toList σ=some (w1 r):=λ{σ}h=>by
     unfold clK unK at h;rw[j];split at h;.cases h;omega
     .cases h
    have S:=a6v D (λ_ _ _ h=>by cases h) hm _ .n _ _ r z.1 ((hd _).trans (by rw[y];rfl)) _ (λi=>by have:=c8q (clS U e c).ps 0 i;simp [Nat.zero_le,true_and,Nat.sub_zero]at this;exact this.symm) (λ_=>False) (λ_=>undef) (λF C s=>(F=.normal\/F=.ret)/\∃v,(results fn (Fr 8 C).tmps).run P s=.ok v s/\Post (clS U e c) Z G w [_] _ v s) (λ_ h=>h.elim) ⟨λσ J L R s _ k B=>⟨.inl rfl,c2g D g p k (by rw[j];exact z.2) (o B)⟩,(λi σ J L R s _ k B=>by cases B),λσ J L R s _ k B=>⟨.inr rfl,c2g D g p k (by rw[j];exact z.2) (o B)⟩⟩ Z _ _ w (λ_ h=>h.elim) (A false);refine wpIn_mono (S _ [] (.inl rfl)) ?_;rintro F a' s⟨C,rfl,X,v,H,E⟩;rcases X with rfl|rfl<;>exact⟨rfl,v,H,v,rfl,E⟩
end
end Go.SX
namespace Go.PL
open Go
def g7y(x y c:Int):A3 (Int×Int):=if 0<=x/\0<=y/\0<=c/\c<=1then some ((x+y+c)%18446744073709551616,(x+y+c)/18446744073709551616)else none
def g8x(x y c:Int):A3 (Int×Int):=if 0<=x/\0<=y/\y<=18446744073709551615/\0<=c/\c<=1then some ((x-y-c)%18446744073709551616,if x<y+c then 1 else 0)else none
def g34{P:Program}{w:World}{x y c:Int}{r:Int×Int}(h:g7y x y c=some r){e:Array A5->Sem A5}(f:Extern.MathBitsCarry.rows.head?.map (·.2)=some e):(e #[.int .u64 x,.int .u64 y,.int .u64 c]).run P w=.ok (.tuple #[.int .u64 r.1,.int .u64 r.2]) w:=by
 obtain rfl:=qH f;unfold g7y at h;split at h
 .rename_i b;let⟨d,g,m,n⟩:=b;cases h;obtain⟨x,rfl⟩:=qT d;obtain⟨y,rfl⟩:=qT g;have i:c=0\/c=1:=by omega
  have a:∀k,k<=1->Result.ok (Extern.MathBitsCarry.pair ((x+y+k)%Extern.MathBitsCarry.m64) ((x+y+k)/Extern.MathBitsCarry.m64)) w=Result.ok (Value.tuple #[.int .u64 (((x)+y+k)%18446744073709551616),.int .u64 (((x)+y+k)/18446744073709551616)]) w:=by
   intro k _;have l:(Int.ofNat ((x+y+k)%Extern.MathBitsCarry.m64))=((x)+y+k)%18446744073709551616:=by show(((x+y+k)%18446744073709551616):Int)=_;omega
   have j:(Int.ofNat ((x+y+k)/Extern.MathBitsCarry.m64))=((x)+y+k)/18446744073709551616:=by show(((x+y+k)/18446744073709551616):Int)=_;omega
   unfold Extern.MathBitsCarry.pair;grind
  rcases i with rfl|rfl;.exact(show _=Result.ok _ w from rfl).trans (a 0 (by omega))
  .exact(show _=Result.ok _ w from rfl).trans (a 1 (by omega))
 grind
def g3o{P:Program}{w:World}{x y c:Int}{r:Int×Int}(h:g8x x y c=some r){e:Array A5->Sem A5}(d:Extern.MathBitsCarry.rows.tail.head?.map (·.2)=some e):(e #[.int .u64 x,.int .u64 y,.int .u64 c]).run P w=.ok (.tuple #[.int .u64 r.1,.int .u64 r.2]) w:=by
 obtain rfl:=qH d;unfold g8x at h;split at h
 .rename_i l;let⟨j,b,m,n,o⟩:=l;cases h;obtain⟨x,rfl⟩:=qT j;obtain⟨y,rfl⟩:=qT b;have g:c=0\/c=1:=by omega
  have a:∀k,k<=1->Result.ok (Extern.MathBitsCarry.pair ((x+Extern.MathBitsCarry.m64-y-k)%Extern.MathBitsCarry.m64) (if x<y+k then 1 else 0)) w=Result.ok (Value.tuple #[.int .u64 (((x)-y-k)%18446744073709551616),.int .u64 (if(x:Int)<y+k then 1 else 0)]) w:=by
   intro k _;have f:(Int.ofNat ((x+Extern.MathBitsCarry.m64-y-k)%Extern.MathBitsCarry.m64))=((x)-y-k)%18446744073709551616:=by show(((x+18446744073709551616-y-k)%18446744073709551616:Nat):Int)=_;omega
   have i:(Int.ofNat (if x<y+k then 1 else 0))=if(x:Int)<y+k then 1 else 0:=by show((if x<y+k then 1 else 0:Nat):Int)=_;split<;>split<;>omega
   unfold Extern.MathBitsCarry.pair;rw[f,i]
  rcases g with rfl|rfl;.exact(show _=Result.ok _ w from rfl).trans (a 0 (by omega))
  .exact(show _=Result.ok _ w from rfl).trans (a 1 (by omega))
 grind
end Go.PL
namespace Go.SX
open Go Go.PL
section
variable {P:Program} {U:Uni}
def g46{ps:O (PK U.C)}{c d:U.C}{Z G:Nat->Prop}{w:World}{us:O A5}{o:Outs U ps}{x:U.T c}{y:U.T d}{u v:A5}(g:a1p (cz Z w) (inj c x) u)(e:a1p (cz Z w) (inj d y) v)(f:OR (czO Z ps us w) ps o us)(l:ioB ps us=[]):Post (⟨ps,[.v c,.v d]⟩:Sig U) Z G w us ((x,y,()),o) (.tuple #[u,v]) w:=⟨⟨Z,[u,v],us,rfl,λ_ h=>h,λ_ h=>.inl h,Ext.refl _ _,rfl,λ_ _ _ _=>rfl,⟨g,e,trivial⟩,f,(λv a=>by have a:v∈([])++ioB ps us:=a;simp_all),(λi j v k b _ a=>by have a:(([])++ioB ps us)[i]?=some v:=a;simp_all)⟩⟩
def d2m{g:Int->Int->Int->A3 (Int×Int)}{l:O (String×(Array A5->Sem A5))}(F:∀{P:Program}{w:World}{x y c:Int}{r:Int×Int},g x y c=some r->∀{e:Array A5->Sem A5},l.head?.map (·.2)=some e->(e #[.int .u64 x,.int .u64 y,.int .u64 c]).run P w=.ok (.tuple #[.int .u64 r.1,.int .u64 r.2]) w){f:FuncId}{fn:Func}(C:P.funcs[f]?=some fn)(z:(fn.name== "runtime.NumGoroutine")=false)(I:fn.body.isNone=true)(H:Extern.findNext fn=none)(t:Extern.find fn=l.head?.map (·.2))(D:(l.head?.map (·.2)).isSome=true){a:U.C}(b:U.T a->Int)(d:Int->U.T a)(E:∀x,(inj a x:U.AV)=.int .u64 (b x))(i:∀n,(inj a (d n):U.AV)=.int .u64 n):d6d P f (⟨⟨[.v a,.v a,.v a],[.v a,.v a]⟩,Int×Int,λx=>g (b x.1) (b x.2.1) (b x.2.2.1),λn=>((d n.1,d n.2,()),()),none⟩:Fent U):=by intro J r u Z G w A B h;match A,B with|[q,k,m],_=>have j:AVR _ (inj a _) q:=h.slot 0;have s:AVR _ (inj a _) k:=h.slot 1;have o:AVR _ (inj a _) m:=h.slot 2;rw[E]at j s o;let⟨e,p⟩:=Option.isSome_iff_exists.1 D;refine⟨.tuple _,w,?_,g46 (by rw[i];rfl) (by rw[i];rfl) trivial rfl⟩;show(callFunc f #[q,k,m]).run P w=_;rw[j,s,o,run_callFunc_extern C z I H (t.trans p),F u p];rfl
end
section
variable {P:Program} {U:Uni}
def c39{c:U.C}{cells:U.T c->O A5}(f:∀G w x,(Rp c).rep G w (cells x) x){B:Nat}{E:TypeId}{w:World}{v:A5}{l:O (U.T c)}(e:PL.Own B E (U.n c) cells w v l)(X:Cx)(h:X.w=w):MR X (.sl E c l) v:=by
 subst h;refine⟨l.map λx=>(d0s (f X.G X.w x)),?_,?_⟩
 .rcases e with⟨d,j⟩|⟨g,o,a,b,d,r,m,i,q,k,n⟩;.subst j;exact .inl ⟨d,rfl⟩
  .refine .inr ⟨g,o,a,b,by simpa using d,Nat.zero_le _,m,by simpa using i,q,k,?_⟩;rw[List.length_map,n,flatMap_map];rfl
 .clear e;induction l with|nil=>trivial|cons x l p=>exact⟨f X.G X.w x,p⟩
end
section
variable {U:Uni} {P:Program}
def slQ(ts e:TypeId)(c:U.C)(g:FuncId)(F:O (U.T c)->A3 (O (U.T c)))(h:Nat)(as:O U.AV):U.Q:=match as with
 |[.ifc t (.ref j),.clo f [.ref i]]=>.rdM i λm=>match m with
   |.box b (.st _ [.ref d])=>(match(Nat.beq t ts&&Nat.beq b ts)&&(Nat.beq g f&&Nat.beq j d)with
     |true=>.rdM j λm=>match m with|.sl a _ l=>(match Nat.beq e a,b8i c l with|true,some l=>.opt (F l) λr=>.done (.tup []) [(j,.sl e c r)]|_,_=>.fail)|_=>.fail
     |false=>.fail)|_=>.fail
 |_=>.fail
def b9b{c:U.C}{e:TypeId}{cells:U.T c->O A5}{X:Cx}(f:∀(G:Nat->Prop)(w:World)(cs:O A5)(x:U.T c),(Rp c).rep G w cs x->cs=cells x){l:O (U.T c)}{v:A5}(h:MR X (.sl e c l) v):PL.Own 0 e (U.n c) cells X.w v l:=by
 obtain⟨a,n,b⟩:=h;have k:=y7.length b;have z:a.flatMap Subtype.val=l.flatMap cells:=by clear n k;induction a generalizing l with
  |nil=>cases l with|nil=>rfl|cons _ _=>exact b.elim
  |cons s a r=>cases l with|nil=>exact b.elim|cons x l=>rw[flatMap_cons,flatMap_cons,r b.2,f _ _ _ _ b.1]
 rcases n with⟨d,j⟩|⟨g,o,i,m,d,j,u,q,t,y,p⟩;.subst j;exact .inl ⟨d,List.length_eq_zero_iff.1 k.symm⟩
 .rw[k]at d q p;exact .inr ⟨g,o,i,m,d,j,u,q,t,y,p.trans z⟩
def g47{c:U.C}{ts e:TypeId}{cells:U.T c->O A5}{f g:FuncId}{F:O (U.T c)->A3 (O (U.T c))}(z:b44 P f)(R:∀(G:Nat->Prop)(w:World)(cs:O A5)(x:U.T c),(Rp c).rep G w cs x->cs=cells x)(hc2:∀(G:Nat->Prop)(w:World)(x:U.T c),(Rp c).rep G w (cells x) x)(h:∀(l r:O (U.T c))(w:World)(v:A5)(y:Nat),PL.Own 0 e (U.n c) cells w v l->Mb w y ts [v]->v.ownBlock≠some y->F l=some r->Calls P f #[.iface ts v,.func (.func g) #[] #[.pointer (some ⟨y,0,none⟩)]] w λq w'=>q=.returned (.tuple #[])/\Ext (λb=>v.ownBlock=some b) w w'/\PL.Own 0 e (U.n c) cells w' v r):d6v P f (slQ ts e c g F):=by
 refine⟨z,λE Z K M ρ w fr as us m0 m v ws L k a=>?_⟩;unfold slQ at a;split at a;case h_2=>exact a.elim
 rename_i t j g' i;replace a:(match M.mem i with|.box B (.st _ [.ref j'])=>(match(Nat.beq t ts&&Nat.beq B ts)&&(Nat.beq g g'&&Nat.beq j j')with|true=>Q.rdM j _|false=>.fail)|_=>(.fail)).Ev M _ m v ws:=a;have D:=L.mem i;split at a;case h_2=>exact a.elim
 rename_i B cl j' hm;rw[hm]at D;split at a;case h_2=>exact a.elim
 rename_i s;simp only[qB]at s;have e1:=qC s.1.1;have e2:=qC s.1.2;have e3:=qC s.2.1;have e4:=qC s.2.2;subst e1 e2 e3 e4;let⟨y,u,J,N,hu⟩:=d51 D;have hu:=hu.2.1;subst hu;replace a:(match M.mem j with|.sl e' _ l=>(match Nat.beq e e',b8i c l with|true,some l=>Q.opt _ _|_,_=>.fail)|_=>(.fail)).Ev M _ m v ws:=a;have H:=L.mem j;split at a;case h_2=>exact a.elim
 rename_i e' c' l' o;rw[o]at H;split at a;case h_2=>exact a.elim
 rename_i l X hl;let⟨V,I⟩:=a3i (G:=noG) (w:=default) hl;subst V;subst I;have he:=qC X;subst he;obtain⟨r,hF,_,rfl,rfl⟩:=a;have hO:=b9b R H;let⟨ad,cap,A,_⟩:=hO.shape;have hMv:Mb w y B [K j]:=by have N:Mb w y B (K j).cells.toList:=N;rw[A]at N⊢;simpa[Value.cells]using N
 match us,k with|[],k=>exact k.elim|[_],k=>exact k.2.elim|_::_::_::_,k=>exact k.2.2.elim|[u1,u2],k=>let⟨q1,T,Y⟩:=k.1;let⟨vs,W,n⟩:=k.2.1;match vs,n with
   |[],n=>exact n.elim|_::_::_,n=>exact n.2.elim|[p],n=>
     have hq:q1=K j:=Y.2.1;have hp:p=K i:=n.1.2.1;subst T W hq hp;rw[show([.iface B _,.func _ #[] _]:O A5).toArray=#[.iface B _,.func _ #[] _]by rw[J]];refine(h _ _ _ _ y hO hMv (λC=>L.dist i j y (λe=>by simp_all) (by rw[hm,J];rfl) (by rw[o];exact(a95 A).1 C)) hF).mono λq w'⟨hq,hE,S⟩=>⟨_,hq,λd=>⟨Z,K,?_⟩⟩;refine L.set (λC=>by rw[o]at C;cases C) (λC=>by cases C) (hE.mono λb s=>?_) (λX' I hw=>?_) (λb s=>?_) λX' _=>⟨[],rfl,trivial⟩;.rw[o];exact(a95 A).1 s
     .exact c39 hc2 S X' hw
     .rw[o];exact s
end
section
variable {U:Uni} {P:Program}
def skQ(g:FuncId)(h e:TypeId)(c:U.C)(f:Int->U.T c)(a:Nat)(b:O U.AV):U.Q:=match b with
 |[.clo q [.ref i]]=>.rdM i λm=>match m with
   |.box d (.ref j)=>(match Nat.beq q g&&Nat.beq d h with
     |true=>.rdM j λm=>match m with
       |.mp l=>.opt (c8c l) λr=>.rdM a λ|.never=>.done (.ref a) [(a,.sl e c (r.map f))]|_=>.fail
       |_=>.fail
     |false=>.fail)|_=>.fail
 |_=>.fail
abbrev cellsZ:Int->O A5:=λx=>[.int .i64 x]
def g3x{f gk:FuncId}{T e:TypeId}{c:U.C}{D:Int->U.T c}(A:b44 P f)(hn:U.n c=1)(N:∀x,U.flds c (D x)=[.int .i64 x])(hK:∀(i J:Nat)(l:O (Int×Int))(r:O Int)(w:World),Mb w i T [.map (some J)]->(l.map (·.1)).Nodup->w.heap[J]?=some (b92 l)->c8c l=some r->Calls P f #[.func (.func gk) #[] #[.pointer (some ⟨i,0,none⟩)]] w λq w'=>∃v,q=.returned v/\Ext noG w w'/\PL.Own w.heap.size e 1 cellsZ w' v r):d6v P f (skQ gk T e c D):=by
 refine⟨A,λE Z π t ρ w s as2 us m0 m v F hR k a=>?_⟩;have I:∀(G:Nat->Prop)(w:World)(x:Int),(Rp c).rep G w (cellsZ x) _:=λG w x=>a91.2 ⟨hn.symm,[[.int _ x]],rfl,by rw[N];exact⟨rfl,trivial⟩⟩;have R:∀{r:O Int}{w':World}{u:A5},t.mem s=.never->Ext noG w w'->PL.Own w.heap.size e 1 cellsZ w' u r->∀d,∃Z' π',Rel E Z' π' (t.app d (.ref s) [(s,.sl e c (r.map D))]) (b20 ρ d u) w':=by
  intro r w' u y hE K d;obtain⟨ad,H,z,-⟩:=K.shape;refine⟨Z,c0j π s u,hR.new (dead:=[]) (mc:=.sl e c _) y (λn=>by cases n) (hE.mono λ_ n=>n.elim) (λX' hle hw _=>⟨r.map λx=>⟨cellsZ x,hn.symm,λu L=>by simp at L;subst L;rfl⟩,?_,?_⟩) (λb hb=>?_) (by rw[z];rfl)⟩
  .rw[hw];rcases K with⟨B,M⟩|⟨g,o,H,cur,B,M,h3,h4,h5,h6,h7⟩;.subst M;exact .inl ⟨B,rfl⟩
   .exact .inr ⟨g,o,H,cur,by simpa using B,Nat.zero_le _,h3,by simpa using h4,h5,by rw[hn];omega,by rw[List.length_map,flatMap_map,show r.length*U.n c=r.length*1from by rw[hn]];omega⟩
  .clear K z;induction r with|nil=>trivial|cons x r ih=>exact⟨I _ _ x,ih⟩
  .have:=K.lt ((a95 z).2 hb);omega
 unfold skQ at a;split at a;case h_2=>exact a.elim
 rename_i q i;match us,k with|[],k=>exact k.elim|_::_::_,k=>exact k.2.elim|[u],k=>let⟨vs,L,h⟩:=k.1;match vs,h with
 |[],h=>exact h.elim|_::_::_,h=>exact h.2.elim|[p],h=>
 have S:p=π i:=h.1.2.1;replace a:(match t.mem i with
  |.box t' (.ref j)=>(match Nat.beq q gk&&Nat.beq t' T with
    |true=>Q.rdM j _|false=>.fail)|_=>(.fail)).Ev t _ m v F:=a;have hm:=hR.mem i;have C:∀{o:A3 (O Int)}{m1:Nat},(Q.opt o λr=>Q.rdM s λ(m)=>(match m with|.never=>Q.done (.ref s) [(s,.sl e c (r.map D))]|_=>.fail)).Ev t m1 m v F->∃r,o=some r/\t.mem s=.never/\v=.ref s/\F=[(s,.sl e c (r.map D))]:=by
  intro o m1 n;let⟨r,Y,n⟩:=n;have n:(match t.mem s with|.never=>Q.done _ _|_=>(.fail)).Ev t _ m v F:=n;split at n;.rename_i hn;exact⟨r,Y,hn,n.2.1,n.2.2⟩
  .exact n.elim
 split at a
 .rename_i t' j X;rw[X]at hm;split at a;case h_2=>exact a.elim
  rename_i hg;simp only[qB]at hg;have g1:=qC hg.1;have g2:=qC hg.2;subst g1 g2;replace a:(match t.mem j with
    |.mp l=>Q.opt _ _
    |_=>(.fail)).Ev t _ m v F:=a;have hj:=hR.mem j;split at a;case h_2=>exact a.elim
  rename_i l V;rw[V]at hj;obtain⟨r,Y,y,rfl,rfl⟩:=C a;let⟨b,u1,hv,hM,ha⟩:=hm;let⟨J,W,hnd,hob⟩:=hj;rw[L,show[p].toArray=#[.pointer _]by rw[S,hv]];exact(hK b J l r w (by have B:=ha.2.1.trans W;rw[B]at hM;exact hM) hnd hob Y).mono λq w'⟨v,B,M,h3⟩=>⟨v,B,R y M h3⟩
 .exact a.elim
def soQ(e:TypeId)(c:U.C)(F:O (U.T c)->A3 (O (U.T c)))(f:Nat)(a:O U.AV):U.Q:=match a with
 |[.ref b]=>.rdM b λm=>match m with|.sl d _ l=>(match Nat.beq e d,b8i c l with|true,some l=>.opt (F l) λr=>.done (.tup []) [(b,.sl e c r)]|_,_=>.fail)|_=>.fail
 |_=>.fail
def g65{c:U.C}{e:TypeId}{cells:U.T c->O A5}{f:FuncId}{F:O (U.T c)->A3 (O (U.T c))}(j:b44 P f)(A:∀(G:Nat->Prop)(w:World)(cs:O A5)(x:U.T c),(Rp c).rep G w cs x->cs=cells x)(C:∀(G:Nat->Prop)(w:World)(x:U.T c),(Rp c).rep G w (cells x) x)(h:∀(l r:O (U.T c))(w:World)(v:A5),PL.Own 0 e (U.n c) cells w v l->F l=some r->Calls P f #[v] w λq w'=>q=.returned (.tuple #[])/\Ext (λb=>v.ownBlock=some b) w w'/\PL.Own 0 e (U.n c) cells w' v r):d6v P f (soQ e c F):=by
 refine⟨j,λE Z K J ρ w fr X V m0 m v Y L g a=>?_⟩;unfold soQ at a;split at a;case h_2=>exact a.elim
 rename_i s;replace a:(match J.mem s with|.sl H _ l=>(match Nat.beq e H,b8i c l with|true,some l=>Q.opt _ _|_,_=>.fail)|_=>(.fail)).Ev J _ m v Y:=a;split at a;case h_2=>exact a.elim
 rename_i H c' l' n;split at a;case h_2=>exact a.elim
 rename_i l t S;obtain⟨r,R,_,rfl,rfl⟩:=a;match V,g with
 |[],g=>exact g.elim|_::_::_,g=>exact g.2.elim|[u],g=>
 let⟨y,k⟩:=a3i (G:=noG) (w:=default) S;subst y;subst k;have t:=qC t;subst t;have i:=L.mem s;rw[n]at i;have I:=b9b A i;let⟨ad,T,p,_⟩:=I.shape;rw[show u=K s from g.1.2.1];refine(h _ _ _ _ I R).mono λq w'⟨N,M,B⟩=>⟨_,N,λd=>⟨Z,K,?_⟩⟩;refine L.set (λo=>by rw[n]at o;cases o) (λo=>by cases o) (M.mono λb z=>?_) (λD k W=>?_) (λb z=>?_) λD _=>⟨[],rfl,trivial⟩;.rw[n];exact(a95 p).1 z
 .exact c39 C B D W
 .rw[n];exact z
end
section
variable {P:Program} {n:Nat}
def c7o(P:Program):O Oper->((Nat->A5)->World->Prop)->(Nat->A5)->World->Prop|[],K,a,w=>K a w|o::r,K,a,w=>o.guard=none/\a0k P o (ev a) w λv c=>c7o P r K (b20 a o.dst v) c
def c7o.mono:∀{b:O Oper}{K d:(Nat->A5)->World->Prop}{ρ:Nat->A5}{w:World},c7o P b K ρ w->(∀ρ w,K ρ w->d ρ w)->c7o P b d ρ w|[],_,_,_,_,h,c=>c _ _ h|_::_,_,_,_,_,h,c=>⟨h.1,h.2.mono λ_ _ f=>c7o.mono f c⟩
def c7o.append:∀{a b:O Oper}{K:(Nat->A5)->World->Prop}{ρ:Nat->A5}{w:World},c7o P a (c7o P b K) ρ w->c7o P (a++b) K ρ w|[],_,_,_,_,h=>h|_::a,b,K,_,_,h=>⟨h.1,h.2.mono λ_ _ d=>c7o.append d⟩
end
section
variable {P:Program} {U:Uni} {Φ:Phi U} {E:Env}
def d5p(a:O Oper):O Nat:=a.filterMap (·.dst)
def b35{a:O Oper}{T:O Nat}(h:(T.all λt=>!((d5p a).any (Nat.beq t)))=true){t:Nat}(c:t∈T):t∉d5p a:=λb=>by have e:=qX.1 h t c;have d:=List.any_eq_true.2 ⟨t,b,Nat.beq_refl t⟩;simp_all
def cA:Code->Code|.seq a _=>a|.cond _ a _=>a|c=>c
section
variable {n:Nat} {c:Code} {Q:Exit -> (Nat -> A5) -> World -> Prop} {ρ:Nat -> A5} {w:World}
end
end
def kvv(q:Int×Int):A5:=.agg #[.int .i64 q.1,.int .i64 q.2]
abbrev ML:=O ((Int×Int)×A5)
def a4j(q:((Int×Int)×A5)×Nat):MapEntry:={key:=kvv q.1.1,val:=q.1.2,born:=q.2}
def c00(L:ML):Obj:=.map (L.zipIdx.map a4j).toArray L.length
section
variable {P:Program} {t k e:TypeId} {b:Nat} {L:ML} {w:World} {q:Int×Int} {z:A5}
end
section
variable {β:Type} {tE:TypeId} {cells:β -> O A5} {n:Nat} {bm B:Nat} {w w':World} {V:ML} {L:O ((Int×Int)×O β)} {P:Program}
structure GrpI(tE:TypeId)(cells:β->O A5)(n:Nat)(bm B:Nat)(w:World)(V:ML)(L:O ((Int×Int)×O β)):Prop where
 obj:w.heap[bm]?=some (c00 V)keys:V.map (·.1)=L.map (·.1)nd:(V.map (·.1)).Nodup
 own:∀(j:Nat)q v s,V[j]?=some (q,v)->L[j]?=some (q,s)->PL.Own B tE n cells w v s
 dist:∀(i j:Nat)qi vi qj vj b,i≠j->V[i]?=some (qi,vi)->V[j]?=some (qj,vj)->vi.ownBlock=some b->vj.ownBlock≠some b
 lt:bm<B
def c65{b a:Type}{V:O ((Int×Int)×b)}{L:O ((Int×Int)×a)}(h:V.map (·.1)=L.map (·.1)){j:Nat}{q:Int×Int}{v:b}(c:V[j]?=some (q,v)):∃s,L[j]?=some (q,s):=by
 have d:(V.map (·.1))[j]?=some q:=by rw[getElem?_map,c];rfl
 rw[h,getElem?_map]at d;cases e:L[j]?with|none=>simp_all|some p=>grind
def GrpI.ext{G:Nat->Prop}(h:GrpI tE cells n bm B w V L)(a:Ext G w w')(f:∀b,G b->b<B/\b≠bm):GrpI tE cells n bm B w' V L:=⟨(a.block bm (qN.1 h.obj).1 λd=>(f bm d).2 rfl).trans h.obj,h.keys,h.nd,λj q v s e c=>(h.own j q v s e c).ext a λb i d=>by have:=((h.own j q v s e c).lt i).1;grind,h.dist,h.lt⟩
def GrpI.exn(h:GrpI tE cells n bm B w V L)(a:Ext noG w w'):GrpI tE cells n bm B w' V L:=h.ext a λb c=>c.elim
def GrpI.store(h:GrpI tE cells n bm B w V L){l:World}{j:Nat}{k:Int×Int}{v r:A5}{s G:O β}(z:V[j]?=some (k,v))(S:L[j]?=some (k,s))(R:Ext (λb=>v.ownBlock=some b) w l)(E:PL.Own B tE n cells l r G)(p:∀b,r.ownBlock=some b->v.ownBlock=some b\/w.heap.size<=b):GrpI tE cells n bm B {l with heap:=l.heap.setIfInBounds bm (c00 (V.set j (k,r)))} (V.set j (k,r)) (L.set j (k,G)):=by
 have m:=(qD.1 z).1;have N:∀{v:A5}{s:O β},PL.Own B tE n cells l v s->PL.Own B tE n _ {l with heap:=l.heap.setIfInBounds bm (c00 (V.set j (k,r)))} v s:=λE=>E.ext ⟨rfl,rfl,rfl,by simp,λi W F=>by have:bm≠i:=λe=>F e.symm;simp_all⟩ λb p F=>by have:=(E.lt p).1;have:=h.lt;omega
 have f:∀{T:Type}(X:O _)(x:(Int×Int)×T),X[j]?=some x->∀y,(X.set j (x.1,y)).map (·.1)=X.map (·.1):=λX x U y=>by
  rw[map_set];apply ext_getElem?;intro i;rw[getElem?_set];split;.rename_i e;subst e;let⟨c,a⟩:=qD.1 U;simp_all
  .rfl
 have A:=f V _ z r;refine⟨by simp[(Nat.lt_of_lt_of_le ((qN.1 h.obj).1) R.size)],by rw[A,(f L _ S G),h.keys],by rw[A];exact h.nd,λi q u t c a=>?_,λi D J M H I b g c a d=>?_,h.lt⟩
 .rw[getElem?_set]at c a;by_cases e:j=i;.subst e;rw[if_pos rfl,if_pos m]at c;rw[if_pos rfl,if_pos ((qD.1 S).1)]at a;cases c;cases a;exact N E
  .rw[if_neg e]at c a;exact N ((h.own i q u t c a).ext R λb p F=>h.dist j i k v q u b e z c F p)
 .rw[getElem?_set]at c a;by_cases e:j=i
  .subst e;rw[if_pos rfl,if_pos m]at c;rw[if_neg g]at a;cases c;rcases p b d with C|C;.exact h.dist j D k v H I b g z a C
   .intro o;let⟨t,K⟩:=c65 h.keys a;have:=((h.own D H I t a K).lt o).2;omega
  .rw[if_neg e]at c;by_cases Q:j=D
   .subst Q;rw[if_pos rfl,if_pos m]at a;cases a;intro o;rcases p b o with C|C;.exact h.dist i j J M k v b (Ne.symm e) c z d C
    .let⟨t,K⟩:=c65 h.keys c;have:=((h.own i J M t c K).lt d).2;omega
   .rw[if_neg Q]at a;exact h.dist i D J M H I b g c a d
def a0k.val{o:Oper}{a:Operand->A5}{w w':World}{v:A5}{K:A5->World->Prop}(b:(execOp a o).run P w=.ok (.value v) w')(h:K v w'):a0k P o a w K:=by unfold a0k;simp_all
def a0k.skip{o:Oper}{a:Operand->A5}{w w':World}{K:A5->World->Prop}(b:(execOp a o).run P w=.ok .skip w')(h:K undef w'):a0k P o a w K:=by unfold a0k;simp_all
end
section
variable {P:Program} {U:Uni}
def e4b(D:UOK U){f:FuncId}{fe:Fent U}(H:Spec P f fe){n:Args U fe.s.ps}{b:fe.B}(z:fe.F n=some b){w:World}(t:U.tab w/\∀b,U.tb b->b<w.heap.size){us:O A5}(s:us.length=fe.s.ps.length)(l:(b4o fe.s.ps&&Nat.beq (npK fe.s.ps) fe.s.ps.length)=true)(k:O (O Nat))(a:∀i∈k,i=[])(q:∀Z':Nat->Prop,(∀b,b<w.heap.size->Z' b)->ARs (⟨[],[],0⟩:U.St) (λ_=>undef) (cz Z' w) us fe.s.ps us n k):Calls P f us.toArray w λe w'=>∃vs Z',e=.returned (g6p vs)/\Ext noG w w'/\RRs (cz Z' w') fe.s.rs (fe.wr b).1 vs:=by
 have A:Rel (⟨w,noG,λb=>b<w.heap.size,λ_=>False,λ_=>undef⟩) _ (λ_=>undef) (⟨[],[],0⟩) (λ_=>undef) w:=⟨λ_=>trivial,λ_=>trivial,λ_ _ h=>h.elim,λ_ _ _ _ h=>h.elim,λ_ h=>h,λ_ h=>.inl h,λ_ h=>h,Ext.refl _ _,λ_ h=>h.elim,t.1,λb p=>⟨t.2 b p,λh=>h.elim⟩⟩;have m:c6k (k++[([]:O (Nat×U.MC)).map (·.1)])=true:=by clear q;induction k with|nil=>rfl|cons i r y=>obtain rfl:=a i (by simp);exact y λi o=>a i (qJ _ o)
 simp only[qB]at l;have g:us.take (npK fe.s.ps)=us:=by rw[qC l.2,<-s,take_length]
 have d:=H n b z _ _ w us s (by rw[g];exact (f2x D A l.1 (λ_ _=>rfl) (λ_ h=>by cases h) (λZ' E _=>q Z' E) m (λj v x=>by simp[c7a,x])));rw[g]at d;refine d.mono λe w'⟨u,B,⟨Z',vs,I,C,_,_,G,_,_,F,_⟩⟩=>⟨vs,Z',by rw[B,C],G.mono λb p=>?_,F⟩;let⟨i,o,J,c,_⟩:=p;rw[a i o]at c;cases c
end
end Go.SX
namespace Go.SX
open Go Go.PL Go.ChangeShapes Go.WideShapes Go.Deep Go.RowKit
section
variable {P:Program} {U:Uni}
def RdQ(P:Program)(U:Uni)(t:TypeId)(c:U.C)(q:U.T c->Prop):Prop:=∀{H:Type}(f:TypeId×A5->H)(w:World)(e:Nat)(a:Nat->Bool)(b:Bool)(d:Nat)(g:O A5)(r:DataW H×O MemPlace),DataW.trod f P w e a b d t g=some r->∃x:U.T c,q x/\(Rp c).rep noG w g x
def RdT(P:Program)(U:Uni)(t:TypeId)(c:U.C):Prop:=RdQ P U t c λ_=>True
def RdA(P:Program)(U:Uni)(t:TypeId)(S:U.AV->Prop):Prop:=∀{H:Type}(f:TypeId×A5->H)(w:World)(e:Nat)(b:Nat->Bool)(c:Bool)(d:Nat)(g:O A5)(r:DataW H×O MemPlace),DataW.trod f P w e b c d t g=some r->∃a,S a/\e8 Rp noG w a g
def isI(k:IntKind)(a:U.AV):Prop:=∃z,a=.int k z
def isL (c:U.C) (a:U.AV):Prop:= ∃l:List (U.T c),l.length <= 9223372036854775807 /\ a= .list c l
def isB(a:U.AV):Prop:=∃z,a=.bool z
def RdA.int{t:TypeId}{k:IntKind}(e:P.underlying t=some (.int k)):RdA P U t (isI k):=by intro H f w d a c b i r h;obtain⟨n,rfl,rfl,g⟩:=DataW.trod_int e h;exact⟨.int k n,⟨n,rfl⟩,rfl⟩
def RdA.bool{t:TypeId}(f:P.underlying t=some .bool):RdA P U t isB:=by intro H g w d a c e i r h;obtain⟨b,rfl,rfl⟩:=DataW.trod_bool f h;exact⟨.bool b,⟨b,rfl⟩,rfl⟩
instance(c:U.C):Inhabited (A3 (U.T c)):=⟨none⟩
def g4n{b:Type}{R:TyR b}{G:Nat->Prop}{w:World}{v:A5}{l:O b}(h:k9 R G w v l):l.length<=9223372036854775807:=by let⟨a,d,_,e,c⟩:=h.shape;simp [maxLen]at c;omega
def f7y{t e:TypeId}{c:U.C}(hI:RdT P U e c)(hC:P.cellsOf e=U.n c)(s:0<U.n c)(R:P.underlying t=some (.slice e)){H:Type}{enc:TypeId×A5->H}{w:World}{f:Nat}{g:Nat->Bool}{A:Bool}{z:Nat}{cs:O A5}{r:DataW H×O MemPlace}(h:DataW.trod enc P w f g A z t cs=some r):∃(v:A5)(l:O (U.T c)),cs=[v]/\k9 (Rp c) noG w v l:=by
 rcases open_slice R h with⟨q,_⟩|⟨K,len,L,m,n',D,Pl,q,hb,hl,Z,V,b,Y⟩;.exact⟨_,[],q,.inl ⟨rfl,rfl⟩⟩
 .have S:len<=m:=by grind
  let⟨X,T⟩:=choose_lt (n:=len) (p:=λi x=>∃y a,x=some y/\w.cells? f (K.add (i*U.n c)) (U.n c)=some a/\(Rp c).rep noG w a y) (λi Q=>by let⟨a,q,o⟩:=Y i (by omega);let⟨x,_,I⟩:=hI _ _ _ _ _ _ _ _ o;rw[hC]at q;exact⟨some x,x,a,rfl,q,I⟩);have E:∀k,k<=len->∃l:O _,l.length=k/\∀i x,l[i]?=some x->∃a,w.cells? f (K.add (i*U.n c)) (U.n c)=some a/\(Rp c).rep noG w a x:=by intro k;induction k with|zero=>intro _;exact⟨[],rfl,λi x b=>by simp at b⟩|succ k W=>
     intro hk;let⟨l,o,J⟩:=W (by omega);let⟨y,a,_,F,C⟩:=T k (by omega);refine⟨l++[y],by simp[o],λi x b=>?_⟩;by_cases hik:i<k;.rw[getElem?_append_left (by omega)]at b;exact J i x b
     .rw[getElem?_append_right (by omega)]at b;have B:i=k:=by have:=(qD.1 b).1;simp at this;omega
      subst B;rw[o]at b;simp at b;subst b;exact⟨a,F,C⟩
  let ⟨l,o,J⟩:=E len (Nat.le_refl _);refine⟨_,l,q,.inr ⟨K,L,by rw[o],by omega,Z,λi x b=>?_⟩⟩;let⟨a,F,C⟩:=J i x b;let⟨N,hcl,u⟩:=World.cells?_some F;have G:a.length=U.n c:=(Rp c).len C;refine⟨a,C,?_,λh=>h,λj v M=>?_⟩;.have B:=u 0 s;have:a[0]?=some (a[0]'(by omega)):=qG _;rw[this]at B;have:=f0a B;rwa[a2h,a2h]at this
  .exact(u j (by rw[<-G];exact(qD.1 M).1)).trans M
theorem RdA.slice {t e:TypeId} {c:U.C} (hI:RdT P U e c) (hC:P.cellsOf e=U.n c) (hpos:0<U.n c) (ht:P.underlying t=some (.slice e)):RdA P U t (isL c):=by
 intro H enc w base spare held fuel cs r h
 obtain ⟨v,l,h1,h2⟩:=f7y hI hC hpos ht h
 exact ⟨.list c l,⟨l,g4n h2,rfl⟩,v,h1,h2⟩
def RdT.one(m:UOK U){t:TypeId}{c:U.C}{S:U.AV->Prop}(h:RdA P U t S)(d:∀a,S a->∃x:U.T c,U.flds c x=[a]):RdT P U t c:=by intro H b w f e g j i r o;let⟨a,k,l⟩:=h b w _ _ _ _ i r o;let⟨x,n⟩:=d a k;have:=c96 m (css:=[i]) (by rw[n];exact⟨l,trivial⟩);grind
def szS(P:Program):O Field->Nat|[]=>0|f::b=>P.cellsOf f.type+szS P b
def h07(P:Program):Nat->O Field->Bool|_,[]=>true|o,f::b=>Nat.beq f.offset o&&h07 P (o+P.cellsOf f.type) b
def RdL(P:Program)(U:Uni):O Field->O (U.AV->Prop)->Prop|[],[]=>True|f::a,S::c=>RdA P U f.type S/\RdL P U a c|_,_=>False
def RdQ.struct(V:UOK U){t:TypeId}{c:U.C}{q:U.T c->Prop}{fs:Array Field}{Ss:O (U.AV->Prop)}(R:P.underlying t=some (.struct fs))(k:h07 P 0 fs.toList=true)(N:P.cellsOf t=szS P fs.toList)(Z:RdL P U fs.toList Ss)(F:∀as,y7 (λS a=>S a) Ss as->∃x:U.T c,q x/\U.flds c x=as):RdQ P U t c q:=by
 intro H p w j e m G A r h;let⟨xs,n,_,_,hl,W,u⟩:=DataW.trod_struct R h;have s:∀(l Ss:O _)(o:Nat),h07 P o l=true->RdL P U l Ss->o+szS P l=A.length->(∀f∈l,∃y,DataW.trod p P w j e m n f.type ((A.drop f.offset).take (P.cellsOf f.type))=some y)->∃as b,y7 (λS a=>S a) Ss as/\y7 (e8 Rp noG w) as b/\b.flatten=A.drop o:=by intro l;induction l with
  |nil=>intro Ss o _ g d _;cases Ss with|nil=>exact⟨[],[],trivial,trivial,by simp [szS]at d;grind⟩|cons _ _=>exact g.elim
  |cons f l Q=>intro Ss o k g d L;cases Ss with|nil=>exact g.elim|cons S Ss=>simp only[h07,qB]at k;simp [szS]at d;let⟨as,b,E,K,v⟩:=Q Ss _ k.2 g.2 (by omega) λY D=>L Y (qJ _ D);let⟨y,C⟩:=L f qI;let⟨a,T,hr⟩:=g.1 p w _ _ _ n _ _ C;refine⟨a::as,_::b,⟨T,E⟩,⟨hr,K⟩,?_⟩;rw[flatten_cons,v,(qC k.1),<-drop_drop,take_append_drop]
 let⟨as,b,E,K,v⟩:=s _ Ss 0 k Z (by omega) λf X=>by
  let⟨i,hi,B⟩:=List.mem_iff_getElem.1 X;have z:i<fs.size:=by omega
  have I:=u i f (by rw[Array.getElem?_eq_getElem z];simpa using B);rw[qG (by omega)]at I;exact⟨_,I⟩
 let⟨x,M,u⟩:=F as E;have J:=c96 V (by rw[u];omega);rw[v]at J;exact⟨x,M,by simpa using J⟩
def a7b{S:U.AV->Prop}{Ss:O (U.AV->Prop)}{b:O U.AV}(h:y7 (λS a=>S a) (S::Ss) b):∃a r,b=a::r/\S a/\y7 (λS a=>S a) Ss r:=by cases b with|nil=>exact h.elim|cons a r=>exact⟨a,r,rfl,h.1,h.2⟩
def f6f{b:O U.AV}(h:y7 (λS a=>S a) ([]:O (U.AV->Prop)) b):b=[]:=by cases b with|nil=>rfl|cons a r=>exact h.elim
def g6o(P:Program)(U:Uni):O TypeId->O (U.AV->Prop)->Prop|[],[]=>True|t::a,S::b=>RdA P U t S/\g6o P U a b|_,_=>False
def g6o.to:∀(fs:O Field)(Ss:O (U.AV->Prop)),g6o P U (fs.map (·.type)) Ss->RdL P U fs Ss|[],[],_=>trivial|_::fs,_::Ss,h=>⟨h.1,g6o.to fs Ss h.2⟩|[],_::_,h=>h.elim|_::_,[],h=>h.elim
def RdQ.str(g:UOK U){t:TypeId}{c:U.C}{q:U.T c->Prop}{fs:Array Field}{ts:O TypeId}{Ss:O (U.AV->Prop)}(f:P.underlying t=some (.struct fs))(e:h07 P 0 fs.toList=true)(b:P.cellsOf t=szS P fs.toList)(h:fs.toList.map (·.type)=ts)(i:g6o P U ts Ss)(d:∀as,y7 (λS a=>S a) Ss as->∃x:U.T c,q x/\U.flds c x=as):RdQ P U t c q:=RdQ.struct g f e b (g6o.to _ _ (by simp_all)) d
def RdP(P:Program)(U:Uni)(t:TypeId)(p:PK U.C)(q:p.T U->Prop):Prop:=∀{H:Type}(e:TypeId×A5->H)(w:World)(h:Nat)(a:Nat->Bool)(c:Bool)(v:A5)(d:DataW H)(j:O MemPlace),Value.okWide P w .any h t v->DataW.Trod e P w 0 a c t v d j->∃x:p.T U,q x/\∀(i:U.St)(k:Nat->A5)(f:O A5)(g:Nat->Prop),(∀b,b<w.heap.size->g b)->AR i k (cz g w) f p v x []
def l3p{c:U.C}{w:World}{b:O A5}{x:U.T c}(h:(Rp c).rep noG w b x){a:Nat->Prop}(d:∀b,b<w.heap.size->a b):(Rp c).rep (cz a w).G w b x:=(Rp c).weaken h λb e f=>f (d b e)
def RdP.struct{t:TypeId}{c:U.C}{q:U.T c->Prop}{f:Array Field}(e:P.underlying t=some (.struct f))(a:U.ag c=true)(h:RdQ P U t c q):RdP P U t (.v c) q:=by intro H j w s b k v d m o⟨p,i⟩;obtain⟨g,rfl,_⟩:=okWide_struct e o;obtain⟨x,y,z⟩:=h j w 0 b k p _ _ i;refine⟨x,y,λl n r u y=>⟨rfl,?_⟩⟩;unfold inj;rw[a];exact⟨g.toList,by simp,l3p z y⟩
def RdP.int{t:TypeId}{c:U.C}{k:IntKind}(e:P.underlying t=some (.int k))(i:∀z,∃x:U.T c,(inj c x:U.AV)=.int k z):RdP P U t (.v c) λ_=>True:=by intro H j w s a b v d o l h;obtain⟨n,rfl,_⟩:=open_int e l h;let⟨x,f⟩:=i n;exact⟨x,trivial,λp m g q r=>⟨rfl,by rw[f];rfl⟩⟩
def RdP.bool{t:TypeId}{c:U.C}(e:P.underlying t=some .bool)(i:∀z,∃x:U.T c,(inj c x:U.AV)=.bool z):RdP P U t (.v c) λ_=>True:=by intro H j w r a b v d m k h;obtain⟨n,rfl,_⟩:=open_bool e k h;let⟨x,f⟩:=i n;exact⟨x,trivial,λo l g p q=>⟨rfl,by rw[f];rfl⟩⟩
def RdP.slice{t e:TypeId}{c:U.C}(j:P.underlying t=some (.slice e))(n:RdT P U e c)(q:P.cellsOf e=U.n c)(f:0<U.n c):RdP P U t (.ls c) λl=>l.length<=9223372036854775807:=by intro H x w G g h v d C o⟨k,p⟩;obtain⟨a,y,m,rfl⟩:=okWide_slice j o;let⟨B,l,z,i⟩:=f7y n q f j p;cases z;exact⟨l,g4n i,λD F r E s=>⟨rfl,i.weaken λb A u=>u (s b A)⟩⟩
def e12(P:Program)(U:Uni):O TypeId->(ps:O (PK U.C))->(Args U ps->Prop)->Prop|[],[],q=>q ()|t::e,p::ps,q=>∃(c:p.T U->Prop)(a:Args U ps->Prop),RdP P U t p c/\e12 P U e ps a/\∀x b,c x->a b->q (x,b)|_,_,_=>False
def e12.nil:e12 P U [] [] λ_=>True:=trivial
def e12.cons{t:TypeId}{ts:O TypeId}{p:PK U.C}{ps:O (PK U.C)}{d:p.T U->Prop}{c:Args U ps->Prop}(e:RdP P U t p d)(f:e12 P U ts ps c):e12 P U (t::ts) (p::ps) λx=>d x.1/\c x.2:=⟨d,c,e,f,λ_ _ a b=>⟨a,b⟩⟩
def e7d{H:Type}(enc:TypeId×A5->H)(w:World)(s:Nat)(c:Nat->Bool)(f:Bool):∀{ts:O TypeId}{ps:O (PK U.C)}{vs:O A5}{o:O (DataW H)}{l:O MemPlace}{q:Args U ps->Prop},e12 P U ts ps q->DataW.TrodAll enc P w 0 c f ts vs o l->(∀(j:Nat)t v,ts[j]?=some t->vs[j]?=some v->Value.okWide P w .any s t v)->vs.length=ps.length/\∃e:Args U ps,q e/\∀(σ:U.St)(g:Nat->A5)(a:O A5)(Z':Nat->Prop),(∀b,b<w.heap.size->Z' b)->ARs σ g (cz Z' w) a ps vs e (ps.map λ_=>[])|[],[],vs,o,l,q,i,h,_=>by obtain⟨rfl,rfl,rfl⟩:=trodAll_nil h;exact⟨rfl,(),i,λ_ _ _ _ _=>trivial⟩|t::ts,p::ps,vs,o,l,q,⟨D,N,r,n,i⟩,h,u=>by obtain⟨v,C,d,A,z,D,rfl,rfl,rfl,G,I⟩:=trodAll_cons h;let⟨x,F,K⟩:=r enc w s _ _ v d z (u 0 t v rfl rfl) G;let⟨J,e,M,k⟩:=e7d enc w s _ _ n I λj t v B L=>u (j+1) t v B L;exact⟨by simp[J],(x,e),i x e F M,λσ g a Z' y=>⟨K σ g a Z' y,k σ g a Z' y⟩⟩|[],_::_,_,_,_,_,m,_,_=>m.elim|_::_,[],_,_,_,_,m,_,_=>m.elim
def c48{H:Type}{enc:TypeId×A5->H}(g:laidOutB P=true){W k:World}{j:Nat->Bool}:∀{ts:O TypeId}{vs:O A5}{c:O (DataW H)}{b:O MemPlace},(∀t∈ts,P.readableRec t=true/\t<P.types.size)->DataW.TrodAll enc P W 0 (λ_=>true) true ts vs c b->(∀p∈b,W.sameAt k p)->(∀p∈b,j p.block=true)->DataW.TrodAll enc P k 0 j true ts vs c b|[],vs,c,b,_,h,_,_=>by obtain⟨rfl,rfl,rfl⟩:=trodAll_nil h;exact trodAll_mk0|t::ts,vs,c,b,e,h,i,f=>by obtain⟨v,m,d,r,u,s,rfl,rfl,rfl,n,o⟩:=trodAll_cons h;exact trodAll_cons_mk (WideElems.Trod_stays g (e t qI).1 (e t qI).2 n (λp a=>i p (mem_append_left _ a)) λp a=>f p (mem_append_left _ a)) (c48 g (λt l=>e t (qJ _ l)) o (λp a=>i p (mem_append_right _ a)) λp a=>f p (mem_append_right _ a))
end
end Go.SX
namespace Go.RowKit
open Go Go.ChangeShapes Go.WideShapes
section
variable {H:Type} {enc:TypeId×A5 -> H} {P:Program}
def d42{f:Func}{s:ChangeSpec}{d q g o:Bool}{W u:World}{args:Array A5}{v:A5}{w A:O (DataW H)}{a pa pv:O MemPlace}(B:DataW.Whole enc P f.params.toList s.vars d W args.toList w A a)(m:∀(b:Nat)(n:Nat->Bool)(E:Bool),DataW.TrodAll enc P u b n E f.resultTypes.toList (v.resultList f.resultTypes.size) (s.fn H (w++A)).results [])(h:∀n:Nat->Bool,(∀p∈a,n p.block=true)->DataW.TrodAll enc P u 0 n true f.params.toList args.toList (s.fn H (w++A)).args pa)(e:∀n:Nat->Bool,(∀p∈a,n p.block=true)->DataW.TrodVars enc P u n s.vars (s.fn H (w++A)).vars pv)(k:a=pa++pv)(D:Below W.heap.size W u)(C:∀(j:Nat)(t:TypeId)(r:A5),f.resultTypes[j]?=some t->(v.resultList f.resultTypes.size)[j]?=some r->Value.okWide P u .any 0 t r):s.post enc P f d q g o W args v u:=by
 have z:=λp i=>B.lt p i;have l:∀p∈a,(λb=>decide _) _=true:=λp i=>by simpa using z p i
 refine⟨w,A,a,[],pa,pv,B,m _ _ _,h _ l,e _ l,World.keptBut_mono (λp i=>⟨i,?_⟩) (D.frame _),λ_=>?_⟩;.rw[k,qK]at i;exact Or.inr i
 .let⟨_,_,_,_,_,I,F⟩:=B;refine⟨C,_,_,([]++pa)++pv,⟨[]++pa,pv,trodAll_append (h _ (λ_ _=>rfl)) (m _ _ _),e _ (λ_ _=>rfl),rfl,?_,?_⟩,?_⟩
  .intro b y i;have x:MemPlace.cell b y∈a:=by rw[k];simpa using i
   rw[D.frozen (z _ x)];exact I b y x
  .intro G;have:=F G;rw[k]at this;simpa using this
  .intro p i _;rw[k];simpa using i
end
end Go.RowKit
namespace Go.SX
open Go Go.PL Go.ChangeShapes Go.WideShapes Go.Deep Go.RowKit
section
variable {P:Program} {U:Uni}
def f6a(hU:UOK U){f:FuncId}{fe:Fent U}(Z:Spec P f fe){b:fe.B}{q:Args U fe.s.ps->Prop}(hF:∀B,q B->fe.F B=some b)(o:∀(X:Cx)vs,RRs X fe.s.rs (fe.wr b).1 vs->vs=[.bool true]){fn:Func}(D:e12 P U fn.params.toList fe.s.ps q)(hm:(b4o fe.s.ps&&Nat.beq (npK fe.s.ps) fe.s.ps.length)=true)(hl:laidOutB P=true)(hr:∀t∈fn.params.toList,P.readableRec t=true/\t<P.types.size){tb:TypeId}(R:fn.resultTypes=#[tb])(A:P.underlying tb=some .bool){s:ChangeSpec}(z:s.vars=[]){H:Type}(C:∀g:O (DataW H),g.length=fe.s.ps.length->(s.fn H g).results=[.lit (.bool true)]/\(s.fn H g).args=g/\(s.fn H g).vars=[])(enc:TypeId×A5->H)(W:World)(y:Nat)(args:Array A5)(g Y:O (DataW H))(h:O MemPlace)(G:U.tab W/\∀b,U.tb b->b<W.heap.size)(k:∀(j:Nat)t v,fn.params[j]?=some t->args[j]?=some v->Value.okWide P W .any y t v)(E:DataW.Whole enc P fn.params.toList s.vars false W args.toList g Y h):Calls P f args W λe M=>∃v,e=.returned v/\s.post enc P fn false true false false W args v M:=by
 have m:=E;have l:=E.lt;obtain⟨p,pq,w,J,rfl,L,I⟩:=E;have n:=w;rw[z]at J;obtain⟨rfl,rfl⟩:=trodVars_none J;let⟨c,B,hq,u⟩:=e7d enc W _ _ _ D n λj t v G F=>k j t v (by simpa using G) (by simpa using F);simp [append_nil]at m l;have hC:=e4b hU Z (hF B hq) G c hm _ (λi Q=>by simp at Q;exact Q.2.symm▸rfl) λT hz=>u _ _ _ T hz;refine hC.mono λe M⟨vs,T,he,V,hR⟩=>?_;have F:=o _ _ hR;subst F;let⟨f1,f2,f3⟩:=C g (by rw[<-c];clear u c m J L I l k w;generalize fn.params.toList=N at n;generalize args.toList=vs at n;induction N generalizing vs g p with|nil=>obtain⟨rfl,rfl,_⟩:=trodAll_nil n;rfl|cons t N ih=>obtain⟨v,vs',d,ds',p1,q1,rfl,rfl,rfl,g1,g2⟩:=trodAll_cons n;simp[ih _ _ _ g2]);refine⟨.bool _,he,d42 (pa:=p) (pv:=[]) m (λb' S hd=>?_) (λS r=>?_) (λS r=>?_) (by simp) V.below (ok_one R rfl (okWide_bool_mk A _))⟩;.rw[append_nil,f1,R];exact trodAll_cons_mk (shut_bool A _) trodAll_mk0
 .rw[append_nil,f2];exact c48 hl hr n (λx K=>V.below.same (l x K)) λx K=>r x K
 .rw[append_nil,f3,z];rfl
end
end Go.SX
