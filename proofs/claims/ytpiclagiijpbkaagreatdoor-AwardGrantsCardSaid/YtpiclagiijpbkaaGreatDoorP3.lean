/- Texts of the proof, joined. -/
import Derived.Test.YtpiclagiijpbkaaGreatDoorP2
import Derived.Laws.MakeOwn
import Derived.MapKept
set_option linter.defProp false
set_option linter.unusedVariables false
set_option linter.unusedSimpArgs false
set_option maxRecDepth 100000
open List
namespace Go.SX
open Go Go.PL
section
variable {P:Program} {U:Uni}
variable {E:Env} {Z:Nat -> Prop} {π:Nat -> A5} {σ:U.St} {ρ:Nat -> A5} {w:World}
variable {m0 m:Nat} {a b v:U.AV} {ws:O (Nat×U.MC)} {fr:Nat}
def b2b{c:Type}{t:Nat}{l r:O (Nat×c)}{a:c}(h:(t,a)∈l\/(t,a)∈r):∃m,lk t (l++r)=some m:=by
 have d:∀{l:O _}{a:c},(t,a)∈l->∃m,lk t l=some m:=by intro l;induction l with|nil=>simp_all|cons q l g=>intro a h;show∃m,(bif Nat.beq q.1 t then some q.2else lk t l)=some m;cases f:Nat.beq q.1 t with|true=>simp_all|false=>
      rcases qO.1 h with e|e;.rw[<-e]at f;simp_all
      grind
 exact d (qK.2 h)
def e23:∀(c:O (RK U.C))(us:O A5),(c59 c us).length<=c.length|[],us=>by cases us<;>simp[c59]|r::c,[]=>by cases r<;>simp[c59]|r::c,u::us=>by have:=e23 c us;cases r<;>simp[c59]<;>omega
def b40{b:Nat}:∀(ps:O (PK U.C))(k:Nat)(g:O (O Nat))(os:Outs U ps),∀q∈b70 b k ps g os,q.2≠.never
 |[],k,g,os,q,h=>by cases g<;>cases h|p::ps,k,[],os,q,h=>by cases p<;>cases h|p::ps,k,i::g,os,q,h=>by
   cases p with|v c=>exact b40 ps _ g os q h|ls c=>exact b40 ps _ g os q h|rp t c=>exact b40 ps _ g os q h|ow e c=>exact b40 ps _ g os q h|cl f j=>exact b40 ps _ g os q h|bn f c=>exact b40 ps _ g os q h|km f t=>exact b40 ps _ g os q h|vl f t c=>exact b40 ps _ g os q h|io t c=>
     let⟨o,os⟩:=os;rcases qK.1 h with h|h;.grind
     .exact b40 ps _ g os q h|so e c=>
     let⟨o,os⟩:=os;rcases qK.1 h with h|h;.grind
     .exact b40 ps _ g os q h|im t c m=>
     let⟨o,os⟩:=os;rcases qK.1 h with h|h;.grind
     .exact b40 ps _ g os q h|po l f e c=>
     let⟨o,os⟩:=os;rcases qO.1 h with h|h;.simp_all
     .exact b40 ps _ g os q h
def e78{b:Nat}{C:Cx}{s:O A5}:∀(ps:O (PK U.C))(k:Nat)(us:O A5)(r:Args U ps)(n:O (O Nat))(os:Outs U ps),ARs σ π C s ps us r n->∀(j:Nat)(p:PK U.C),ps[j]?=some p->d4j p=true->∃m,(b+k+j,m)∈b70 b k ps n os
 |[],k,us,r,n,os,_,j,p,h,_=>by grind|_::_,k,[],r,n,os,h,_,_,_,_=>by cases n<;>exact h.elim|_::_,k,_::_,(x,r),[],os,h,_,_,_,_=>h.elim|y::ps,k,u::us,(x,r),i::n,os,h,j,p,D,A=>by
   have g:∀q,0<j->∃m,(b+k+j,m)∈b70 b _ ps n q:=λq F=>by obtain⟨m,l⟩:=e78 ps _ us r n q h.2 (j-1) p (by rw[show j=(j-1)+1by omega]at D;simp_all) A;exact⟨m,by rwa[show b+(k+1)+(j-1)=b+k+j by omega]at l⟩
   have d:d4j y=false->0<j:=λB=>by
    rcases Nat.eq_zero_or_pos j with e|e;.simp_all
    omega
   cases y with|v c=>exact g os (d rfl)|ls c=>exact g os (d rfl)|rp t c=>exact g os (d rfl)|ow e c=>exact g os (d rfl)|cl f G=>exact g os (d rfl)|bn f c=>exact g os (d rfl)|km f t=>exact g os (d rfl)|vl f t c=>exact g os (d rfl)|io t c=>let⟨o,os⟩:=os;let⟨m,l⟩:=g os (d rfl);exact⟨m,mem_append_right _ l⟩|so e c=>let⟨o,os⟩:=os;let⟨m,l⟩:=g os (d rfl);exact⟨m,mem_append_right _ l⟩|im t c m0=>let⟨o,os⟩:=os;let⟨m,l⟩:=g os (d rfl);exact⟨m,mem_append_right _ l⟩|po H f e c=>
     let⟨o,os⟩:=os;rcases Nat.eq_zero_or_pos j with e|e;.subst e;exact⟨_,qI⟩
     .let⟨m,l⟩:=g os e;exact⟨m,qJ _ l⟩
def f4g{fr n j:Nat}{ps:O (PK U.C)}{p:PK U.C}(c:ps[j]?=some p)(hn:d4j p=true):fr+n+j∈h1m fr n ps:=by unfold h1m;rw[mem_filterMap];refine⟨j,List.mem_range.2 (qD.1 c).1,?_⟩;simp_all
def d6f(hU:UOK U)(h:Rel E Z π σ ρ w){s:Sig U}{R:O (Nat×U.MC)}{us:O A5}{xs:Args U s.ps}{I:O (O Nat)}{r:Ress U s.rs×Outs U s.ps}{u:A5}{w':World}{d:A3 Tmp}(hfz:s.nf=true->FZ σ R)(hfn:∀q∈R,σ.mem q.1≠.never)(hin:∀i∈I,∀id∈i,σ.mem id≠.never)(hA:∀Z',(∀b,Z b->Z' b)->(∀b,b50 σ π R b->Z' b)->ARs σ π (cz Z' w) us s.ps us xs I)(hap:c6k (I++[R.map (·.1)])=true)(hmi:b4o s.ps=true)(hnev:∀i∈(d23 fr s.rs r.1).2.map (·.1),σ.mem i=.never)(hnev2:∀i∈h1m fr s.rs.length s.ps,σ.mem i=.never)(hP:Post s (λb=>Z b\/b50 σ π R b) (λb=>∃i∈I,∃id∈i,MB (σ.mem id) (π id) b) w us r u w'):∃Z' π',Rel E Z' π' (σ.app d (h1s (d23 fr s.rs r.1).1) ((d23 fr s.rs r.1).2++(b70 (fr+s.rs.length) 0 s.ps I r.2++(((e07 s.ps I).map λid=>(id,.dead))++match s.nf with|true=>R|false=>[])))) (b20 ρ d u) w':=by
 let⟨Z1,y,ua,N,hz1,hz2,hE,hlu,hsame,hRR,hOR,hown,hdist⟩:=hP;subst N;unfold b4o at hmi;simp [qB]at hmi;have hARs:=hA (λb=>Z b\/b50 σ π R b) (λb h=>.inl h) (λb h=>.inr h);let⟨F,hbb⟩:∃F:Nat,F=fr+s.rs.length:=⟨_,rfl⟩;rw[<-hbb];let⟨ws,M⟩:∃ws:O (Nat×U.MC),ws=(d23 fr s.rs r.1).2++(b70 F 0 s.ps I r.2++(((e07 s.ps I).map λid=>(id,.dead))++match s.nf with|true=>R|false=>[])):=⟨_,rfl⟩;rw[<-M];let⟨Z2,X⟩:∃Z2:Nat->Prop,Z2=(match s.nf with|true=>Z1|false=>Z):=⟨_,rfl⟩;let⟨Q,hisp⟩:∃Q:Nat->Bool,Q=λk=>(match s.ps[k]?with|some p=>d4j p|none=>false):=⟨_,rfl⟩;let⟨D,hπ2⟩:∃D:Nat->A5,D=λid=>if fr<=id/\id-fr<(c59 s.rs y).length then(c59 s.rs y).getD (id-fr) undef else if F<=id/\Q (id-F)=true then ua.getD (id-F) undef else π id:=⟨_,rfl⟩;have hZ2le:∀b,Z2 b->Z1 b:=by
  intro b n;rw[X]at n;cases g:s.nf<;>rw[g]at n;.exact hz1 b (.inl n)
  omega
 have hZle:∀b,Z b->Z2 b:=by
  intro b n;rw[X];cases g:s.nf;.omega
  .exact hz1 b (.inl n)
 let⟨X2,L⟩:∃X2:Cx,X2=cx Z2 D (σ.app d (h1s (d23 fr s.rs r.1).1) ws) w':=⟨_,rfl⟩;have hL:g20 s.nf (cz Z1 w') X2:=by rw[L];refine⟨rfl,λg b n=>?_⟩;rw[X,g];exact n
 have hL':g20 s.nf (czO Z1 s.ps ua w') X2:=hL;have hnfr:s.nf=false->s.rs.all e8u=true:=λe=>by unfold Sig.nf at e;simp only[Bool.not_eq_eq_eq_not,Bool.not_false,qB]at e;exact e.1
 have hnfp:s.nf=false->s.ps.all d0c=true:=λe=>by unfold Sig.nf at e;simp only[Bool.not_eq_eq_eq_not,Bool.not_false,qB]at e;exact e.2
 let⟨hm1,hm2,hm3⟩:=d22 hU hL s.rs fr r.1 y hnfr hRR;have hlenms:=y7.length hm1;have hrl:=e23 s.rs y;have hfresh:∀p,p<(c59 s.rs y).length->σ.mem (fr+p)=.never:=by
  intro p B;have Y:p<(d23 fr s.rs r.1).2.length:=by omega
  have H:=hm2 p _ (qG Y);have:=hnev ((d23 fr s.rs r.1).2[p]).1 (mem_map_of_mem (qV Y));rw[H]at this;omega
 have W:∀k,Q k=true->σ.mem (F+k)=.never:=by
  intro k hk;rw[hisp]at hk;dsimp only at hk;split at hk;.rename_i p B;rw[hbb];exact hnev2 _ (f4g B hk)
  .cases hk
 have hπu:∀id,σ.mem id≠.never->D id=π id:=by
  intro id A;rw[hπ2];show(if _ then _ else if _ then _ else _)=_;rw[if_neg,if_neg];.rintro⟨H,V⟩;apply A;have:=W (id-F) V;rwa[show F+(id-F)=id by omega]at this
  .rintro⟨H,V⟩;apply A;have:=hfresh (id-fr) V;rwa[show fr+(id-fr)=id by omega]at this
 have hπn:∀(p:Nat)(u:A5),(c59 s.rs y)[p]?=some u->D (fr+p)=u:=by intro p u N;have B:=(qD.1 N).1;rw[hπ2];show(if _ then _ else _)=_;rw[if_pos ⟨by omega,by omega⟩];simp[N]
 have hπo:∀k,Q k=true->D (F+k)=ua.getD k undef:=by intro k hk;rw[hπ2];show(if _ then _ else if _ then _ else _)=_;rw[if_neg (by omega),if_pos ⟨by omega,by rw[show F+k-F=k by omega];omega⟩,show F+k-F=k by omega]
 have K:∀q∈ws,q.2≠.never:=by
  intro q J;rw[M]at J;rcases qK.1 J with x|x;.let⟨p,B⟩:=getElem?_of_mem x;let⟨u,N,hu2,hu3⟩:=hm1.get B;omega
  .rcases qK.1 x with x|x;.exact b40 _ _ _ _ q x
   .rcases qK.1 x with x|x;.let⟨i,hi,he⟩:=List.mem_map.1 x;rw[<-he];intro h;cases h
    .cases g:s.nf with|true=>rw[g]at x;let⟨e,c,l,_,e2⟩:=hfz g q.1 q.2 x;rw[e2];intro h;cases h|false=>rw[g]at x;cases x
 have ho1:=e83 hU hL' s.ps 0 xs I r.2 us ua hnfp hARs hOR hsame (λi u N=>by simpa using N) (by
  intro t c m q x J;let⟨b,f,e,c',hx⟩:=c5s s.ps 0 hmi.1 t c m q x J;have hk:Q q.2=true:=by rw[hisp];dsimp only;rw[hx];rfl
  rw[L];refine⟨?_,hπo q.2 hk⟩;show(σ.app d _ ws).mem (F+q.2)≠.never;rw[o8];let⟨m',hm'⟩:=e78 (b:=F) s.ps 0 us xs I r.2 hARs q.2 _ hx rfl;have:∃o,lk (F+q.2) ws=some o:=by rw[M];exact b2b (.inr (mem_append_left _ (by omega)))
  let⟨o,z⟩:=this;rw[z];exact K _ (b1x z));have hcls:∀id o,lk id ws=some o->(∃(p:Nat)(u:A5),(c59 s.rs y)[p]?=some u/\id=fr+p/\MR X2 o u/\D id=u)\/(∃(p:Nat)(u:A5),(ioB s.ps ua)[p]?=some u/\(b70 F 0 s.ps I r.2)[p]?=some (id,o)/\MR X2 o u/\D id=u)\/o=.dead\/(s.nf=true/\(id,o)∈R):=by
  intro id o z;have G:=b1x z;rw[M]at G;rcases qK.1 G with x|x;.let⟨p,B⟩:=getElem?_of_mem x;let⟨u,N,hu2,hu3⟩:=hm1.get B;have e:=hm2 p _ B;exact .inl ⟨p,u,N,e,hu2,by rw[show id=fr+p from e];exact hπn p u N⟩
  .rcases qK.1 x with x|x
   .let⟨p,B⟩:=getElem?_of_mem x;let⟨u,N,H,V,h3⟩:=ho1.get B;refine .inr (.inl ⟨p,u,N,B,H,?_⟩);rcases h3 with⟨e1,e2⟩|⟨j,e1,e2,p0,e3,e4⟩;.rw[hπu id e2];exact e1.symm
    .have e1:id=F+j:=by omega
     rw[e1,hπo j (by rw[hisp];dsimp only;rw[e3];omega)];have e2:=by simpa using e2
     simp[e2]
   .rcases qK.1 x with x|x;.let⟨i,hi,he⟩:=List.mem_map.1 x;cases he;exact .inr (.inr (.inl rfl))
    .cases g:s.nf with|true=>rw[g]at x;exact .inr (.inr (.inr ⟨rfl,x⟩))|false=>rw[g]at x;cases x
 have T:∀i∈I,∀id∈i,∃o,lk id ws=some o:=by
  intro i hi id A;rw[M];rcases b0c s.ps 0 xs I r.2 us hARs i hi id A with⟨o,H⟩|H;.exact b2b (.inr (mem_append_left _ H))
  .exact b2b (.inr (mem_append_right _ (mem_append_left _ (List.mem_map.2 ⟨id,H,rfl⟩))))
 have hown2:∀v∈c59 s.rs y++ioB s.ps ua,∀b,hdV v=some b->¬Z2 b/\b<w'.heap.size/\(w.heap.size<=b\/∃id0 m0,lk id0 ws=some m0/\MB (σ.mem id0) (π id0) b):=by
  intro v hv b n;let⟨H,V,h3⟩:=hown v hv b n;refine⟨λhz=>H (hZ2le b hz),V,?_⟩;rcases h3 with⟨i,hi,id,A,S⟩|h3;.let⟨o,z⟩:=T i hi id A;exact .inr ⟨id,o,z,S⟩
  omega
 have hGZ:∀b,(∃i∈I,∃id∈i,MB (σ.mem id) (π id) b)->¬(Z b\/b50 σ π R b):=by
  rintro b⟨i,hi,id,A,n⟩(hz|⟨q,J,hbq⟩);.exact(h.own id b n).1 hz
  .let⟨j,hj⟩:=getElem?_of_mem hi;have hne:=by
    refine b9f hap j I.length i (R.map (·.1)) id q.1 ?_ ?_ A (mem_map_of_mem J) ?_;.rw[getElem?_append_left (qD.1 hj).1];omega
    .simp
    .exact Nat.ne_of_lt (qD.1 hj).1
   exact h.dist id q.1 b hne n hbq
 refine⟨Z2,D,?_⟩;refine h.next (hE.mono λb⟨i,hi,id,A,n⟩=>?_) hZle (λb n=>?_) (λid N=>hπu id N) (λid o z=>?_) (λid o z=>?_) (λid o b z n=>?_) (λid id' o mc' b hne z hl' n S=>?_) ?_;.let⟨o,z⟩:=T i hi id A;exact⟨id,o,z,n⟩
 .rw[X]at n;cases g:s.nf with|false=>rw[g]at n;exact .inl n|true=>
    rw[g]at n;rcases hz2 b n with(hz|⟨q,J,hbq⟩)|⟨i,hi,id,A,S⟩|hz;.exact .inl hz
    .refine .inr (.inr ?_);have:∃o,lk q.1 ws=some o:=by rw[M,g];exact b2b (.inr (mem_append_right _ (mem_append_right _ J)))
     let⟨o,z⟩:=this;exact⟨q.1,o,z,hbq⟩
    .let⟨o,z⟩:=T i hi id A;exact .inr (.inr ⟨id,o,z,S⟩)
    omega
 .exact K _ (b1x z)
 .rw[<-L];rcases hcls id o z with⟨p,u,B,he,hmr,C⟩|⟨p,u,B,_,hmr,C⟩|rfl|⟨g,J⟩;.rw[C];omega
  .rw[C];omega
  .trivial
  .obtain⟨e,c,l,G,rfl⟩:=hfz g _ _ J;rw[hπu id (by rw[G];intro h;cases h)];have x:=h.mem id;rw[G]at x;have H:=c0x (Z':=λb=>Z b\/b50 σ π R b) x (λb h=>.inl h) λb n=>.inr ⟨_,J,by rw[G];let⟨css,hO,_⟩:=x;let⟨ad,cap,hv,_⟩:=hO.shape;exact(a95 hv).1 n⟩;have V:=k9.ext H (hE.mono (λb n=>hGZ b n));rw[L];refine k9.weaken V λb _ hn hz=>hn ?_;rw[X,g];exact hz1 b hz
 .rcases hcls id o z with⟨p,u,B,he,hmr,C⟩|⟨p,u,B,_,hmr,C⟩|rfl|⟨g,J⟩;.rw[C]at n;exact hown2 u (mem_append_left _ (qE B)) b (f7v n)
  .rw[C]at n;exact hown2 u (mem_append_right _ (qE B)) b (f7v n)
  .exact n.elim
  .obtain⟨e,c,l,_,rfl⟩:=hfz g _ _ J;exact n.elim
 .have pos:∀id o,lk id ws=some o->MB o (D id) b->∃(k:Nat)(u:A5),(c59 s.rs y++ioB s.ps ua)[k]?=some u/\hdV u=some b/\((k<(c59 s.rs y).length/\id=fr+k)\/((c59 s.rs y).length<=k/\∃mc',(b70 F 0 s.ps I r.2)[k-(c59 s.rs y).length]?=some (id,mc'))):=by
   intro id o z n;rcases hcls id o z with⟨p,u,B,he,hmr,C⟩|⟨p,u,B,hpo,hmr,C⟩|rfl|⟨g,J⟩;.rw[C]at n;have hlt:=(qD.1 B).1;exact⟨p,u,by rw[getElem?_append_left hlt];omega,f7v n,.inl ⟨hlt,he⟩⟩
   .rw[C]at n;exact⟨(c59 s.rs y).length+p,u,by rw[getElem?_append_right (by omega)];simpa using B,f7v n,.inr ⟨by omega,o,by simpa using hpo⟩⟩
   .exact n.elim
   .obtain⟨e,c,l,_,rfl⟩:=hfz g _ _ J;exact n.elim
  let⟨k,u,hk,hku,hkc⟩:=pos id o z n;let⟨k',u',hk',hku',hkc'⟩:=pos id' mc' hl' S;have hkk:k≠k':=by
   intro e;subst e;rcases hkc with⟨H,V⟩|⟨H,mc1,V⟩<;>rcases hkc' with⟨h3,h4⟩|⟨h3,mc2,h4⟩;.omega
   .omega
   .omega
   .rw[V]at h4;cases h4;omega
  exact hdist k k' u u' b hkk hk hk' hku hku'
 .rw[<-L];refine f6m (hm3 λp u B=>⟨?_,?_⟩)
  .rw[L];show(σ.app d _ ws).mem (fr+p)≠.never;rw[o8];have Y:p<(d23 fr s.rs r.1).2.length:=by rw[hlenms];exact(qD.1 B).1
   have H:=hm2 p _ (qG Y);have:∃o,lk (fr+p) ws=some o:=by rw[M,<-H];exact b2b (.inl (qV Y))
   let⟨o,z⟩:=this;rw[z];exact K _ (b1x z)
  .rw[L];exact hπn p u B
def f0v{X:Cx}{d:O A5}:∀{ps:O (PK U.C)}{us:O A5}{f:Args U ps}{c:O (O Nat)},ARs σ π X d ps us f c->us.length=ps.length|[],[],_,[],_=>rfl|_::_,_::_,(_,_),_::_,h=>by simp[f0v h.2]|[],[],_,_::_,h=>h.elim|[],_::_,_,c,h=>by cases c<;>exact h.elim|_::_,[],_,c,h=>by cases c<;>exact h.elim|_::_,_::_,(_,_),[],h=>h.elim
def c5z:∀(d:O (RK U.C))(x:Ress U d)(k:Ress U d->U.Q),(g6e d x k).Ev σ m0 m v ws->(k x).Ev σ m0 m v ws
 |[],_,k,h=>h|.v c::d,(x,g),k,h=>c5z d g _ h|.ls c::d,(x,g),k,h=>c5z d g _ h|.ow e c::d,(x,g),k,h=>c5z d g _ h|.bo t c::d,(x,g),k,h=>by
   rcases h with⟨e,h⟩|⟨y,e,h⟩;.subst e;exact c5z d g _ h
   .subst e;exact c5z d g _ h
def f7p(hU:UOK U)(h:Rel E Z π σ ρ w){d:A3 Tmp}{ty:TypeId}{ps:String}{af:Array Edge}{g:A3 (Nat×Bool)}{x:Operand}{j:Array Operand}{t:Array TypeId}{f L:FuncId}{q:TypeId}{Y:A3 U.C}{as cs:O U.AV}{vs fs:O A5}(X:ev ρ x=.func (.func f) fs.toArray vs.toArray)(K:y7 (a1p (cx Z π σ w)) cs vs)(J:y7 (AVR (cx Z π σ w)) as (fs++j.toList.map (ev ρ)))(S:b9c P f L q)(k:(h3i fr L q Y (as++cs)).Ev σ m0 m v ws):a48 P E σ ρ w ⟨d,.call ⟨.value x,j,t⟩,ty,ps,af,g⟩ v ws:=by
 have i:=a87 J (K.mono λ_ _ I=>AVR.of1 I);have e:(fs.toArray++j.map (ev ρ)++vs.toArray)=(fs++j.toList.map (ev ρ)++vs).toArray:=by simp_all
 generalize as++cs=A at i k;generalize hB:fs++j.toList.map _++vs=B at i e;have run:∀(u:A5),B=[u]->(execOp (ev ρ) ⟨d,.call ⟨.value x,j,t⟩,ty,ps,af,g⟩).run P w=.ok (.enter f #[u]) w:=by intro u z;rw[z]at e;simp [execOp,resolve,Deferred.ofValue,X,Sem.run_bind];simp[invoke,(S.1 _ w),e]
 have s:∀(u:A5)(a:U.AV),B=[u]->u.cells.toList=[u]->(∀r,(cx Z π σ w).Le r->a1p r a u)->σ.mem fr=.never->a48 P E σ ρ w ⟨d,.call ⟨.value x,j,t⟩,ty,ps,af,g⟩ (.clo L [.ref fr]) [(fr,.box q a)]:=by
  intro u a z y p o;unfold a48 a0k;rw[run u z];refine(S.2 u y w).mono λe' w'⟨V,M⟩=>⟨_,V,Z,c0j π fr (.pointer (some ⟨w.heap.size,0,none⟩)),?_⟩;subst M;have hM:=by have:=Mb.alloc w q [u];omega
  have W:=h.new (d:=none) (dead:=[]) (mc:=.box q a) o (λh=>by grind) ((Ext.alloc _ w (.cells #[u] q)).mono λ_ I=>I) (λr n M hZ=>⟨w.heap.size,u,rfl,by simp_all,p r n⟩) (λb z=>by have z:some _=some b:=z;simp_all) rfl;refine W.val (Ext.refl _ _) ⟨[.pointer _],rfl,⟨?_,?_,rfl⟩,trivial⟩
  .show(σ.app _ _ _).mem fr≠.never;rw[o8];have:lk fr ((fr,.box q a)::([]).map λF=>(F,(.dead:U.MC)))=some (.box q a):=by show(bif Nat.beq fr fr then some _ else _)=_;simp_all
   simp_all
  .show _=c0j π fr _ fr;simp[c0j]
 unfold h3i at k;split at k;.rename_i F;match B,i with
  |[u],i=>
    have p:=i.1;have R:=h.mem F;simp [Q.Ev]at k;split at k
    .rename_i l H;rw[H]at R;let⟨T,hp,_,_⟩:=R;obtain⟨o,N,C,rfl,rfl⟩:=b28 k;have D:u=.map (some T):=by rw[p.2.1];exact hp
     exact s u _ rfl (by rw[D];rfl) (λr n=>⟨(n.u F p.1).1,by rw[(n.u F p.1).2];exact p.2.1,by rw[D];rfl⟩) o
    .exact k.elim|[],i=>exact i.elim|_::_::_,i=>exact i.2.elim
 .rename_i c0 c l;match B,i with|[u],i=>have p:=i.1;obtain⟨o,N,C,rfl,rfl⟩:=b28 k;exact s u _ rfl (c0w (c7u p)) (λr n=>k9.le n p) o|[],i=>exact i.elim|_::_::_,i=>exact i.2.elim
 .match B,i with|[u],i=>have p:=i.1;obtain⟨o,N,C,rfl,rfl⟩:=b28 k;exact s u _ rfl (by rw[p];rfl) (λr n=>p) o|[],i=>exact i.elim|_::_::_,i=>exact i.2.elim
 .exact k.elim
def g3k(h:Rel E Z π σ ρ w){d:A3 Tmp}{ty:TypeId}{ps:String}{af:Array Edge}{g:A3 (Nat×Bool)}{x:Operand}{c:Array Operand}{i:Array TypeId}{f:FuncId}{q:Nat->O U.AV->U.Q}{as cs:O U.AV}{vs fs:O A5}(s:ev ρ x=.func (.func f) fs.toArray vs.toArray)(n:y7 (a1p (cx Z π σ w)) cs vs)(o:y7 (AVR (cx Z π σ w)) as (fs++c.toList.map (ev ρ)))(p:d6v P f q)(k:(q fr (as++cs)).Ev σ m0 m v ws):a48 P E σ ρ w ⟨d,.call ⟨.value x,c,i⟩,ty,ps,af,g⟩ v ws:=by
 have e:(fs.toArray++c.map (ev ρ)++vs.toArray)=(fs++c.toList.map (ev ρ)++vs).toArray:=by simp_all
 have j:(execOp (ev ρ) ⟨d,.call ⟨.value x,c,i⟩,ty,ps,af,g⟩).run P w=.ok (.enter f (fs++c.toList.map (ev ρ)++vs).toArray) w:=by have l:=p.1 (fs.toArray++c.map (ev ρ)++vs.toArray) w;rw[e]at l;simp [execOp,resolve,Deferred.ofValue,s,Sem.run_bind];simp [qQ]at l;simp[invoke,l,e]
 unfold a48 a0k;rw[j];exact(p.2 E Z π σ ρ w fr _ _ _ _ _ _ h (a87 o (n.mono λ_ _ y=>AVR.of1 y)) k).mono λA z⟨u,t,r⟩=>⟨u,t,r d⟩
def d6c(J:UOK U){Φ:Phi U}(W:∀f as fe,Φ f as=some fe->c9b P f fe)(h:Rel E Z π σ ρ w){d:A3 Tmp}{ty:TypeId}{ps:String}{af:Array Edge}{g:A3 (Nat×Bool)}{x:Operand}{i:Array Operand}{G:Array TypeId}{f:FuncId}{as cs:O U.AV}{vs fs:O A5}(L:ev ρ x=.func (.func f) fs.toArray vs.toArray)(D:y7 (a1p (cx Z π σ w)) cs vs)(H:y7 (AVR (cx Z π σ w)) as (fs++i.toList.map (ev ρ)))(c:(f8h Φ fr f (as++cs)).Ev σ m0 m v ws):a48 P E σ ρ w ⟨d,.call ⟨.value x,i,G⟩,ty,ps,af,g⟩ v ws:=by
 unfold f8h at c;split at c;case h_2=>exact c.elim
 rename_i fe S;have l:=W f _ fe S;split at c;.exact f7p J h L D H (by unfold c9b at l;simp_all) c
 .exact g3k h L D H (by unfold c9b at l;simp_all) c
 rename_i hq;have l:(Spec P f fe/\b44 P f)\/d6d P f fe:=by unfold c9b at l;rw[hq]at l;omega
 split at c;case h_2=>exact c.elim
 rename_i p;simp only[qB]at p;have o:=a87 H (D.mono λ_ _ hh=>AVR.of1 hh);have A:(fs++i.toList.map (ev ρ)++vs).length=npK fe.s.ps:=by rw[<-y7.length o];exact qC p.2
 let⟨ex,B,m9,Q,c⟩:=g9f h c;have r:=a87 o Q;let⟨xs,is,fz,m1,c,Y,V,h3,M⟩:=f1q J h r r c;split at c;case h_2=>exact c.elim
 rename_i I;let⟨bb,hr,c⟩:=c;have c:=c5z _ _ _ c;let⟨y,m2,c⟩:=d4r c;let⟨q,m3,hm1,T,N⟩:=d4r c;subst T;rw[N];have e:(fs.toArray++i.map (ev ρ)++vs.toArray)=(fs++i.toList.map (ev ρ)++vs).toArray:=by simp
 have K:(fs++i.toList.map (ev ρ)++vs++B).take (npK fe.s.ps)=fs++i.toList.map (ev ρ)++vs:=by rw[<-A,take_left]
 have hs:∀t,t<npK fe.s.ps->c7a ((fs++i.toList.map (ev ρ)++vs++B).take (npK fe.s.ps)) t=c7a (fs++i.toList.map (ev ρ)++vs++B) t:=by intro t ht;simp [c7a,getD_eq_getElem?_getD,getElem?_take_of_lt ht]
 have z:=f0v (M (λb=>Z b\/b50 σ π fz b) (λb h=>.inl h) (λb h=>.inr h))
 have s:=f2x J h p.1 hs V M I (by intro j u hu;simp only[c7a,getD_eq_getElem?_getD,hu,Option.getD_some]);unfold a48 a0k;rcases l with⟨k,F⟩|k
 .have n:(execOp (ev ρ) ⟨d,.call ⟨.value x,i,G⟩,ty,ps,af,g⟩).run P w=.ok (.enter f (fs++i.toList.map (ev ρ)++vs).toArray) w:=by have C:=F (fs.toArray++i.map (ev ρ)++vs.toArray) w;rw[e]at C;simp [execOp,resolve,Deferred.ofValue,L,Sem.run_bind];simp [qQ]at C;simp[invoke,C,e]
  rw[n];have hS:=k xs bb hr _ _ w _ z s;rw[K]at hS;refine hS.mono λe X⟨u,he,R⟩=>⟨u,he,?_⟩;exact d6f J h Y V h3 M I p.1 y q R
 .let⟨u,X,C,R⟩:=k xs bb hr _ _ w _ z s;rw[K]at C;have n:(execOp (ev ρ) ⟨d,.call ⟨.value x,i,G⟩,ty,ps,af,g⟩).run P w=.ok (.value u) X:=by simp [execOp,resolve,Deferred.ofValue,L,Sem.run_bind];simp [qQ]at C;simp[invoke,C,e]
  rw[n];exact d6f J h Y V h3 M I p.1 y q R
end
end Go.SX
namespace Go.PL
open Go
section
variable {P:Program} {w:World} {α:Type} {B:Nat} {E:TypeId} {n:Nat} {cells:α -> O A5} {v:A5} {l r:O α} {t:TypeId}
def f4p{A D:A3 A5}{i j:Int}(hn:∀x,(cells x).length=n)(z:P.underlying t=some (.slice E))(J:(P.info? E).map (·.size)=some n)(I:Own B E n cells w v l)(hs:a1x l i j=some r)(F:(A=none/\i=0)\/A=some (.int .i64 i))(H:(D=none/\j=(l.length:Int))\/D=some (.int .i64 j)):∃u,(Instr.sliceAt t v A D none).run P w=.ok u w/\u.oneCell'=true/\Own B E n cells w u r/\(∀k,u.ownBlock=some k->v.ownBlock=some k)/\(j=(l.length:Int)->d0z u v n i r.length):=by
 let⟨Z,h1,h2,S⟩:=b3y hs;have c:r.length=j.toNat-i.toNat:=by rw[S,length_take,length_drop];omega
 let⟨g,f,e,N,_⟩:=I.shape;refine⟨.slice (if f=i.toNat then g else g.map (·.add (i.toNat*n))) (j.toNat-i.toNat) (f-i.toNat),?_,rfl,?_,?_,?_⟩;.cases a:P.info? E with|none=>simp_all|some q=>
    simp [a,Option.map_some,Option.some.injEq]at J;subst e;have T:(0<=j/\j<=(f:Int)):=by omega
    have h:(0<=i/\i<=(j.toNat:Int)):=by omega
    rcases F with⟨rfl,rfl⟩|rfl<;>rcases H with⟨rfl,hl⟩|rfl
    .have p:=by omega
     simp[Instr.sliceAt,Instr.slice,run_underlying z,Instr.sliceBounds,sizeOf,typeInfo,a,p]
    .simp[Instr.sliceAt,Instr.slice,run_underlying z,Instr.sliceBounds,Instr.sliceBound,asIntOf,T,sizeOf,typeInfo,a]
    .have p:j.toNat=l.length:=by omega
     rw[p]at h;simp[Instr.sliceAt,Instr.slice,run_underlying z,Instr.sliceBounds,Instr.sliceBound,asIntOf,h,sizeOf,typeInfo,a,J,p]
    .simp[Instr.sliceAt,Instr.slice,run_underlying z,Instr.sliceBounds,Instr.sliceBound,asIntOf,T,h,sizeOf,typeInfo,a,J];omega
 .rcases I with⟨o,hl⟩|⟨W,s,b,m,o,V,L,hc,hm,hsz,C⟩
  .rw[o]at e;simp [Value.slice.injEq]at e;let⟨rfl,_,rfl⟩:=e;have ha:i.toNat=0:=by omega
   have hb:j.toNat=0:=by omega
   have:r=[]:=List.length_eq_zero_iff.1 (by omega);rw[this,ha,hb];exact Own.nil _ _ _ _ _
  .rw[o]at e;simp only[Value.slice.injEq]at e;let⟨rfl,_,rfl⟩:=e;by_cases K:b=i.toNat
   .have:r=[]:=List.length_eq_zero_iff.1 (by omega);refine .inr ⟨W,s,b-i.toNat,m,by grind,V,L,by omega,by omega,?_,?_⟩;.grind
    .rw[this];simp
   .rw[if_neg K];have U:b*n=i.toNat*n+(b-i.toNat)*n:=by rw[<-Nat.add_mul];congr 1;omega
    refine .inr ⟨W,s+i.toNat*n,b-i.toNat,m,by rw[c,Option.map_some,Addr.add_lit],V,L,by omega,by omega,by omega,?_⟩;have p:=S.symm;have Y:=c6c hn l i.toNat;have G:∀(l:O α)(k:Nat),k<=l.length->(l.flatMap cells).take (k*n)=(l.take k).flatMap cells:=by intro l;induction l with|nil=>simp|cons y l ih=>intro k d;cases k with|zero=>simp|succ k=>rw[take_succ_cons,flatMap_cons,flatMap_cons,Nat.succ_mul,Nat.add_comm,<-hn y,take_length_add_append,hn y,ih k (by simpa using d)]
    have R:=G (l.drop i.toNat) (j.toNat-i.toNat) (by rw[length_drop];omega);rw[p,<-Y,<-C]at R;rw[<-R,drop_take,take_take,drop_drop,c];congr 1;have:(j.toNat-i.toNat)*n<=l.length*n-i.toNat*n:=by rw[<-Nat.sub_mul];exact Nat.mul_le_mul_right n (by omega)
    omega
 .intro k d;rw[e];cases g with|none=>split at d<;>simp[Value.ownBlock]at d|some g=>
    split at d;.exact d
    .have d:some (g.add (i.toNat*n)).block=some k:=d;rw[a2h]at d;exact d
 .intro hjl;refine⟨g,l.length,f,_,_,e,Z,by omega,by rw[c],λhp=>?_⟩;have hne:=by omega
  cases g with
  |none=>
    rcases I with⟨X,h6⟩|⟨g',M,Q,m,X,_⟩;.simp_all
    grind|some g=>grind
end
end Go.PL
namespace Go.SX
open Go Go.PL
section
variable {P:Program} {U:Uni}
variable {E:Env} {Z:Nat -> Prop} {π:Nat -> A5} {σ:U.St} {ρ:Nat -> A5} {w:World}
variable {d:A3 Tmp} {ty:TypeId} {ps:String} {af:Array Edge} {g:A3 (Nat×Bool)} {x y z:Operand} {m0 m:Nat} {a b c v:U.AV} {ws:O (Nat×U.MC)} {fr:Nat}
def e6g{f s:Type}{p:f->s->Prop}{l:O f}{r n:O s}{i j:Int}(h:y7 p l r)(C:a1x r i j=some n):∃o,a1x l i j=some o/\y7 p o n:=by
 let⟨B,A,D,u⟩:=b3y C;refine⟨(l.drop i.toNat).take (j.toNat-i.toNat),?_,?_⟩;.unfold a1x;rw[if_pos ⟨B,A,by rw[h.length];omega⟩]
 .rw[u];refine y7.of_get (by simp[h.length]) λk a b e q=>?_;rw[getElem?_take]at e q;split at e;.rw[getElem?_drop]at e q;let⟨G,t,F⟩:=h.get e;simp_all
  simp_all
def c9n{t e:TypeId}(h:d2i P t e=true):P.underlying t=some (.slice e):=by unfold d2i at h;split at h;all_goals simp_all
def d2b{t:TypeId}{c:U.C}{l r:O (U.T c)}{F:TypeId}{X:Cx}{u:A5}{A n:A3 A5}{i j:Int}(R:MR X (.sl F c l) u)(H:(b2o P t c&&d2i P t F)=true)(M:a1x l i j=some r)(B:(A=none/\i=0)\/A=some (.int .i64 i))(T:(n=none/\j=(l.length:Int))\/n=some (.int .i64 j)):∃f,(Instr.sliceAt t u A n none).run P X.w=.ok f X.w/\f.oneCell'=true/\MR X (.sl F c r) f/\(∀k,f.ownBlock=some k->u.ownBlock=some k)/\(j=(l.length:Int)->d0z f u (U.n c) i r.length):=by
 simp [qB]at H;let⟨e,o,I,_,_⟩:=b1m H.1;have s:=c9n H.2;rw[o]at s;cases s;let⟨J,N,C⟩:=R;let⟨h,G,q⟩:=e6g C M;have p:(n=none/\j=(J.length))\/n=some (.int .i64 j):=by rw[C.length];omega
 let⟨f,K,D,S,Q,L⟩:=f4p (λr=>r.2.1) o (a9m I) N G B p;exact⟨f,K,D,⟨h,S,q⟩,Q,λV=>by rw[<-q.length];exact L (by rw[C.length];omega)⟩
def f1w(h:Rel E Z π σ ρ w){t:TypeId}{s u:A3 Operand}(q:AVR (cx Z π σ w) a (ev ρ x))(e:(g3w P t a s u).Ev σ m0 m v ws):a48 P E σ ρ w ⟨d,.slice t x s u none,ty,ps,af,g⟩ v ws:=by
 unfold g3w at e;split at e;case h_2=>exact e.elim
 rename_i p;have o:=h.mem p;simp [Q.Ev]at e;split at e;case h_2=>exact e.elim
 rename_i G c l j;split at e;case h_2=>exact e.elim
 rename_i B;let⟨i,H,e,k⟩:=b1t h e;split at e;case h_2=>exact e.elim
 obtain⟨r,C,D,rfl,rfl⟩:=e;rw[j]at o;let⟨F,f,_,_,_,A⟩:=d2b o B C k (.inl ⟨rfl,rfl⟩);have f:(Instr.sliceAt t _ _ _ _).run P w=.ok F w:=f;refine g8 h ?_ ⟨q.1,A rfl⟩;have n:ev ρ x=π p:=q.2.1;rw[<-n]at f;simp[YV,execOp,f]
def e84(h:Rel E Z π σ ρ w){t:TypeId}{B D:A3 Operand}(V:AVR (cx Z π σ w) a (ev ρ x))(e:(h41 P fr t a B D).Ev σ m0 m v ws):a48 P E σ ρ w ⟨d,.slice t x B D none,ty,ps,af,g⟩ v ws:=by
 unfold h41 at e;split at e;case h_2=>exact e.elim
 rename_i u;have F:=h.mem u;simp [Q.Ev]at e;split at e;case h_2=>exact e.elim
 rename_i e0 c l k;split at e;case h_2=>exact e.elim
 rename_i W;let⟨i,m1,e,K⟩:=b1t h e;let⟨j,m2,e,A⟩:=b1t h e;let⟨r,T,e⟩:=e;let⟨hn,m3,hm3,n,J⟩:=b28 e;subst n;rw[J];rw[k]at F;let⟨C,f,Y,p,s,_⟩:=d2b F W T K A;have f:(Instr.sliceAt t _ _ _ _).run P w=.ok C w:=f;have H:ev ρ x=π u:=V.2.1;rw[<-H]at f;have G:(execOp (ev ρ) ⟨d,.slice t x B D none,ty,ps,af,g⟩).run P w=.ok (.value C) w:=by simp[execOp,f]
 unfold a48 a0k;rw[G];refine⟨Z,c0j π fr C,?_⟩;refine h.new (dead:=[u]) hn (λh=>by cases h) (Ext.refl _ _) (λX' I hw _=>?_) (λq hq=>?_) Y;.exact MR.le I p λb _ _=>by rw[hw];rfl
 .let⟨S,M,_⟩:=p;let⟨ad,cap,X,_⟩:=M.shape;have o:=(a95 X).2 hq;refine⟨(M.lt o).2,.inr ⟨u,by simp,?_⟩⟩;rw[k];let⟨R,L,_⟩:=F;let⟨ad0,N,n,_⟩:=L.shape;exact(a95 n).1 (s _ o)
def e8j{f:Type}{z:f}{l r:O f}{e:Int}{n:Nat}(h:h1h z l e n=some r):0<=e/\e.toNat+n=l.length/\r=b5l z l e:=by unfold h1h at h;simp_all
def d4v{e f:Type}{p:e->f->Prop}{a:e}{b:f}(h:p a b):∀n:Nat,y7 p (List.replicate n a) (List.replicate n b)|0=>trivial|n+1=>⟨h,d4v h n⟩
def d6p{e f:Type}{p:e->f->Prop}:∀{l:O e}{r:O f}(n:Nat),y7 p l r->y7 p (l.take n) (r.take n)|_,_,0,_=>by simp[y7]|[],[],_+1,_=>trivial|_::_,_::_,n+1,h=>⟨h.1,d6p n h.2⟩|[],_::_,_+1,h=>h.elim|_::_,[],_+1,h=>h.elim
def e6s(hU:UOK U)(h:Rel E Z π σ ρ w){t:TypeId}(hx:AVR (cx Z π σ w) a (ev ρ x))(f:(e76 P t a).Ev σ m0 m v ws):a48 P E σ ρ w ⟨d,.call ⟨.builtin .clear,#[x],#[t]⟩,ty,ps,af,g⟩ v ws:=by
 unfold e76 at f;split at f;case h_2=>exact f.elim
 rename_i id c lo n;have hm:=h.mem id;simp [Q.Ev]at f;split at f;case h_2=>exact f.elim
 rename_i e A l' o;split at f;case h_2=>exact f.elim
 rename_i l za s hl k;simp [qB]at s;let⟨he,hx2⟩:=a3i (G:=noG) (w:=w) hl;subst he;subst hx2;split at f;case h_2=>exact f.elim
 rename_i R V;obtain⟨r,hr,hm1,rfl,rfl⟩:=f;obtain⟨h0,hlen,rfl⟩:=e8j hr;rw[o]at hm;let⟨Y,hO,I⟩:=hm;let⟨ie,C,B,J,hzs,hsz1,hp1,hp2⟩:=c1w s.2;have hzc:∃K:Raw (U.n A),C.cells.toList=K.1/\∀G w,(Rp A).rep G w K.1 R:=by
  unfold b7m at k;rw[B]at k;dsimp only at k;rw[J]at k;have N:∀(Z':Nat->Prop)(j:World),(Rp A).rep _ j _ R:=λZ' j=>by let⟨u,hu,M⟩:=c13 hU (X:=cz Z' j) _ _ _ _ k;have:=b85 hU V M;rw[hu]at this;exact this
  have q:∀(G:Nat->Prop)(j:World),(Rp A).rep G j _ R:=λG j=>(Rp A).weaken (N (λb=>¬G b) j) λb _ hg J=>J hg;exact⟨d0s (q noG w),rfl,q⟩
 let⟨K,H,D⟩:=hzc;refine(show a0k P _ _ w _ from (e5y (F:=[(0,λ_ j=>Own 0 e _ _ j (π id) _)]) (p:=⟨[],[],[],[0],[],[],[]⟩) (i:=0) (ty:=ty) (ps:=ps) (af:=af) (g:=g) rfl rfl (λb S=>S) (λr=>r.2.1) (λr=>r.2.2) (by omega) rfl (c9n s.1) (λj=>by simp[zeroValue,typeInfo,B,J]) H hx.2 hO)).mono λu j⟨hE,hf⟩=>?_;have hf:Own 0 e _ _ j _ _:=hf;refine⟨Z,π,h.set (λL=>by simp_all) (λL=>by cases L) (hE.mono (λb S=>by rw[o];let⟨ad0,cap0,W,_⟩:=hO.shape;exact(a95 W).1 S)) (λX' T hw=>?_) (λy hy=>?_) λX' _=>trivial⟩;.refine⟨b5l K Y lo,by rw[hw];omega,?_⟩;unfold b5l;rw[I.length];exact a87 (d6p _ (I.mono λ_ _ L=>c42 T L)) (d4v (p:=λ(r:Raw _)x=>(Rp A).rep _ _ r.1 x) (D _ _) _)
 .rw[o];exact hy
end
end Go.SX
namespace Go.PL
open Go
section
variable {P:Program} {w:World} {α:Type} {R:TyR α} {G:Nat -> Prop} {v:A5} {l r:O α} {t e:TypeId}
def k9.cut3{b g mx:Int}(h:k9 R G w v l)(p:a1x l b g=some r)(y:g<=mx)(D:mx<=(l.length:Int)):∃a c,v=.slice a l.length c/\l.length<=c/\k9 R G w (.slice (if mx.toNat=b.toNat then a else a.map (·.add (b.toNat*R.n))) (g.toNat-b.toNat) (mx.toNat-b.toNat)) r:=by
 let⟨z,s,u,m⟩:=b3y p;have f:r.length=g.toNat-b.toNat:=by rw[m,length_take,length_drop];omega
 rcases h with⟨k,rfl⟩|⟨a,c,k,B,C,j⟩
 .refine⟨none,0,k,by simp,.inl ⟨?_,by grind⟩⟩;have A:b.toNat=0:=by grind
  simp_all
 .refine⟨some a,c,k,by omega,.inr ?_⟩;by_cases q:mx.toNat=b.toNat;.refine⟨a,mx.toNat-b.toNat,by grind,by omega,by omega,λi x d=>?_⟩;have:r=[]:=List.length_eq_zero_iff.1 (by omega);rw[this]at d;simp at d
  .refine⟨a.add _,mx.toNat-b.toNat,by rw[if_neg q,f];rfl,by omega,by omega,λi x d=>?_⟩;rw[m,getElem?_take]at d;split at d;.rw[getElem?_drop]at d;let⟨o,n,H,F,E⟩:=j _ _ d;refine⟨o,n,by rw[a2h];omega,by rw[a2h];omega,?_⟩;rw[Deep.add_add,<-Nat.add_mul];omega
   grind
def f4d{n:A3 A5}{i j k:Int}(y:P.underlying t=some (.slice e))(o:(P.info? e).map (·.size)=some R.n)(h:k9 R G w v l)(z:a1x l i j=some r)(C:j<=k)(E:k<=(l.length:Int))(p:(n=none/\i=0)\/n=some (.int .i64 i)):∃u,(Instr.sliceAt t v n (some (.int .i64 j)) (some (.int .i64 k))).run P w=.ok u w/\k9 R G w u r:=by let⟨a,g,D,s,f⟩:=h.cut3 z C E;let⟨H,F,B,_⟩:=b3y z;refine⟨_,?_,f⟩;cases b:P.info? e with|none=>simp_all|some q=>
   simp [b,Option.map_some,Option.some.injEq]at o;subst D;have x:(0<=k/\k<=(g)):=by omega
   have A:(0<=j/\j<=(k.toNat)):=by omega
   have m:(0<=i/\i<=(j.toNat)):=by omega
   have c:j<=max k 0:=by omega
   have d:i<=max j 0:=by omega
   rcases p with⟨rfl,rfl⟩|rfl;.simp[Instr.sliceAt,Instr.slice,run_underlying y,Instr.sliceBounds,Instr.sliceBound,asIntOf,A,x,c,(by omega),sizeOf,typeInfo,b,o]
   .simp[Instr.sliceAt,Instr.slice,run_underlying y,Instr.sliceBounds,Instr.sliceBound,asIntOf,A,x,m,c,d,sizeOf,typeInfo,b,o]
end
end Go.PL
namespace Go.SX
open Go Go.PL
def d5n(z:Array A5)(c:0<z.size):∀k:Nat,(madeCells z (k*z.size)).toList=(List.replicate k z.toList).flatten
 |0=>by simp[madeCells]|k+1=>by
   have b:=d5n z c k;simp [madeCells,Array.toList_map,Array.toList_range]at b⊢;rw[replicate_succ,flatten_cons,<-b,Nat.add_mul,Nat.add_comm _,range_add,map_append,map_map];congr 1
   .apply ext_getElem;.simp
    .intro i a e;simp [List.length_map,length_range]at a;simp[Nat.mod_eq_of_lt a,a]
   .apply map_congr_left;simp_all
def f8u{a:Type}{bytes:Nat}{z:a}{n m:Int}{r:O a}(h:mkI bytes z n m=some r):0<=n/\m=n/\(bytes:Int)*n<=281474976710656/\n<=9223372036854775807/\r=List.replicate n.toNat z:=by unfold mkI at h;simp_all
def c0n{U:Uni}{a:U.AV}{n:Int}(h:g1d a=some n):a=.int .i64 n:=by unfold g1d at h;grind
def c4x:O (Int×Int)->Int->Nat|[],_=>0|q::r,k=>if q.1=k then 0 else c4x r k+1
def b3d(q:(Int×Int)×Nat):MapEntry:={key:=.int .i64 q.1.1,val:=.int .i64 q.1.2,born:=q.2}
def d4f(k:Int):∀(l:O (Int×Int))(n i:Nat),Instr.findNow (.int .i64) (.int .i64 k) ((l.zipIdx n).map b3d) i=some (match b5r l k with|some v=>some (i+c4x l k,.int .i64 v)|none=>none)
 |[],n,i=>rfl|q::r,n,i=>by
   by_cases a:q.1=k;.subst a;simp[Instr.findNow,Instr.sameNow,b3d,b5r,c4x]
   .have c:=d4f k r (n+1) (i+1);simp [Instr.findNow,Instr.sameNow,b3d,b5r,c4x,if_neg a,if_true];grind
def e3j{k:Int}:∀{l:O (Int×Int)}{v:Int},b5r l k=some v->c4x l k<l.length
 |[],v,h=>by cases h|q::r,v,h=>by
   unfold b5r at h;unfold c4x;split at h;.simp_all
   .have:=e3j h;simp_all
def c6n{k v:Int}:∀{l:O (Int×Int)}{a:Int}(n:Nat),b5r l k=some a->((l.zipIdx n).map b3d).modify (c4x l k) (λe=>{e with key:=.int .i64 k,val:=.int .i64 v})=((a62 l k v).zipIdx n).map b3d/\(a62 l k v).length=l.length/\(a62 l k v).map (·.1)=l.map (·.1)
 |[],a,n,h=>by cases h|q::r,a,n,h=>by
   unfold b5r at h;unfold c4x a62;split at h;.rename_i c;subst c;simp[zipIdx_cons,b3d]
   .let⟨g,f,d⟩:=c6n (v:=v) (n+1) h;simp_all
def d1r{k v:Int}:∀{l:O (Int×Int)},b5r l k=none->a62 l k v=l++[(k,v)]/\∀q∈l,q.1≠k
 |[],h=>⟨rfl,λq d=>by grind⟩|q::r,h=>by
   unfold b5r at h;unfold a62;split at h;.grind
   .let⟨b,c⟩:=d1r (v:=v) h;grind
def c81{P:Program}{t:TypeId}(h:d27 P t=true):∃k e i,P.underlying t=some (.map k e)/\P.underlying k=some (.int .i64)/\P.info? e=some i/\i.zero=some (.int .i64 0):=by
 unfold d27 at h;split at h
 .split at h
  .split at h;.grind
   simp_all
  simp_all
 simp_all
section
variable {P:Program} {U:Uni} {E:Env} {Z:Nat -> Prop} {π:Nat -> A5} {σ:U.St} {ρ:Nat -> A5} {w:World}
variable {d:A3 Tmp} {ty:TypeId} {ps:String} {af:Array Edge} {g:A3 (Nat×Bool)} {x y z:Operand} {m0 m:Nat} {a b c v:U.AV} {ws:O (Nat×U.MC)} {fr:Nat}
def f6k(F:UOK U){e:TypeId}{c:U.C}{a:U.AV}{o:U.T c}(B:d81 P e (U.n c)=true)(f:b7m P e=some a)(A:prj c a=some o):∃j z,P.info? e=some j/\j.zero=some z/\j.size=U.n c/\0<U.n c/\z.cells.size=U.n c/\∃D:Raw (U.n c),z.cells.toList=D.1/\∀G w,(Rp c).rep G w D.1 o:=by
 let⟨j,n,l,p,r,k,s,J⟩:=c1w B;refine⟨j,n,l,p,k,s,r,?_⟩;unfold b7m at f;rw[l]at f;dsimp only at f;rw[p]at f;have q:∀(C:Nat->Prop)(i:World),(Rp c).rep _ i _ o:=λC i=>by let⟨u,H,t⟩:=c13 F (X:=cz C i) _ _ _ _ f;have:=b85 F A t;rw[H]at this;exact this
 have h:∀(G:Nat->Prop)(i:World),(Rp c).rep G i _ o:=λG i=>(Rp c).weaken (q (λb=>¬G b) i) λb _ I p=>p I;exact⟨d0s (h noG default),rfl,h⟩
def d0y(hU:UOK U)(h:Rel E Z π σ ρ w){t:TypeId}(u:AVR (cx Z π σ w) a (ev ρ x))(s:AVR (cx Z π σ w) b (ev ρ y))(f:(c5k P fr t a b).Ev σ m0 m v ws):a48 P E σ ρ w ⟨d,.makeSlice t x y,ty,ps,af,g⟩ v ws:=by
 unfold c5k at f;split at f;case h_2=>exact f.elim
 rename_i e X;split at f;case h_2=>exact f.elim
 rename_i c za n j hcd F T S;split at f;case h_2=>exact f.elim
 rename_i zv I H;let⟨r,V,f⟩:=f;obtain⟨J,m1,Y,rfl,rfl⟩:=b28 f;obtain⟨Q,rfl,B,D,rfl⟩:=f8u V;have u:=c0n T▸u;have s:=c0n S▸s;have u:ev ρ x=.int _ j:=u;have s:ev ρ y=.int _ j:=s;let⟨C,i,A,R,l,M,K,N,q,o⟩:=f6k hU I F H;have L:d2w P e=C.bytes:=by unfold d2w;rw[A]
 rw[L]at B;refine b1u h (obj:=.cells (madeCells i.cells (j.toNat*C.size)) e) (v':=.slice (some ⟨w.heap.size,0,none⟩) j.toNat j.toNat) J ?_ (λh=>by cases h) rfl rfl (λb B=>B) ?_;.simp[execOp,u,s,(run_make w t e C _ X A R _ _ j j Q _ B D),Result.andThen]
 .intro X' W hw hZ;refine⟨List.replicate _ N,.inr ⟨w.heap.size,0,j.toNat,madeCells i.cells (j.toNat*C.size),by simp_all,Nat.zero_le _,by rw[hw];show(w.heap.push _)[w.heap.size]?=_;simp,by simp_all,by simp [maxLen];omega,by rw[size_madeCells,l];omega,?_⟩,d4v (p:=λ(r:Raw _)x=>(Rp c).rep _ _ r.1 x) (o _ _) _⟩;have G:(List.replicate j.toNat N).flatMap Subtype.val=(List.replicate j.toNat i.cells.toList).flatten:=by rw[q,flatMap_def,map_replicate]
  have k:=d5n i.cells (by omega) j.toNat;rw[K,<-l]at k;rw[G,drop_zero,length_replicate,k,take_of_length_le];rw[<-k,Array.length_toList,size_madeCells,l];omega
def d72{e:Type}{l r:O e}{i j k:Int}(h:c63 l i j k=some r):j<=k/\k<=(l.length:Int)/\a1x l i j=some r:=by unfold c63 at h;simp_all
def d0b(h:Rel E Z π σ ρ w){t:TypeId}{c:U.C}{l r:O (U.T c)}{C:A3 Operand}{q mx:Operand}{i j k:Int}(F:k9 (Rp c) (cx Z π σ w).G w (ev ρ x) l)(J:b2o P t c=true)(B:(C.map (ev ρ)=none/\i=0)\/C.map (ev ρ)=some (.int .i64 i))(n:((some q).map (ev ρ)=none/\j=0)\/(some q).map (ev ρ)=some (.int .i64 j))(f:((some mx).map (ev ρ)=none/\k=0)\/(some mx).map (ev ρ)=some (.int .i64 k))(K:c63 l i j k=some r):a48 P E σ ρ w ⟨d,.slice t x C (some q) (some mx),ty,ps,af,g⟩ (.list c r) []:=by
 let⟨e,A,s,_,_⟩:=b1m J;let⟨L,I,D⟩:=d72 K;rcases n with⟨H,_⟩|n;.grind
 rcases f with⟨H,_⟩|f;.grind
 let⟨u,o,p⟩:=f4d A (a9m s) F D L I B;exact g8 h (by simp[YV,execOp,n,f,o]) p
def d9t(S:UOK U)(h:Rel E Z π σ ρ w){t:TypeId}{D:A3 Operand}{F mx:Operand}(B:AVR (cx Z π σ w) a (ev ρ x))(e:(d9n P t a D F mx).Ev σ m0 m v ws):a48 P E σ ρ w ⟨d,.slice t x D (some F) (some mx),ty,ps,af,g⟩ v ws:=by
 unfold d9n at e;split at e
 .split at e;.rename_i s;let⟨i,K,e,n⟩:=b1t h e;let⟨j,J,e,o⟩:=b1t h e;let⟨k,G,e,p⟩:=b1t h e;obtain⟨r,u,f,rfl,rfl⟩:=e;exact d0b h B s n o p u
  .exact e.elim
 .rename_i C;have I:=h.mem C;simp [Q.Ev]at e;split at e
  .rename_i N c l q;split at e
   .rename_i s;let⟨i,K,e,n⟩:=b1t h e;let⟨j,J,e,o⟩:=b1t h e;let⟨k,G,e,p⟩:=b1t h e;obtain⟨r,u,f,rfl,rfl⟩:=e;have A:FZ σ [(C,.fz c l)]:=by intro L R M;simp_all
    have H:=h.freeze A;refine d0b H ?_ s n o p u;have f:=H.mem C;rw[o8,b6v]at f;rw[B.2.1];exact f
   .exact e.elim
  .rename_i c l q;split at e;.rename_i s;let⟨i,K,e,n⟩:=b1t h e;let⟨j,J,e,o⟩:=b1t h e;let⟨k,G,e,p⟩:=b1t h e;obtain⟨r,u,f,rfl,rfl⟩:=e;rw[q]at I;exact d0b h (by rw[B.2.1];exact I) s n o p u
   .exact e.elim
  .exact e.elim
 .exact e.elim
def d7x(h:Rel E Z π σ ρ w){t:TypeId}(e:(e35 fr:U.Q).Ev σ m0 m v ws):a48 P E σ ρ w ⟨d,.makeMap t none,ty,ps,af,g⟩ v ws:=by
 obtain⟨i,n,k,rfl,rfl⟩:=b28 e;refine b1u h (obj:=.map #[] 0) (v':=.map (some _)) i ?_ (λh=>by grind) rfl rfl (λb f=>f) ?_;.rfl
 .intro l _ j _;exact⟨w.heap.size,rfl,nodup_nil,by rw[j];show(w.heap.push _)[w.heap.size]?=_;simp[b92]⟩
def e4j{t:TypeId}{l:O (Int×Int)}{k:Int}{b:Nat}{ok:Bool}(A:d27 P t=true)(r:w.heap[b]?=some (b92 l)):(Instr.lookup t (.map (some b)) (.int .i64 k) ok).run P w=.ok (if ok then .tuple #[.int .i64 (b5g l k),.bool (c7s l k)]else .int .i64 (b5g l k)) w:=by let⟨s,B,i,h,p,q,u⟩:=c81 A;have o:=MapKept.run_findKey (w:=w) p (d4f k l 0 0);have n:(getObj b).run P w=.ok (.map ((l.zipIdx 0).map b3d).toArray _) w:=MapKept.run_getObj_map r;have j:∀e,(Instr.checkKey e _ s (.int _ k)).run P w=.ok () w:=λe=>MapKept.run_checkKey p (by rfl) e 9999;cases f:b5r l k with|none=>cases ok<;>simp[Instr.lookup,run_underlying h,n,j,o,zeroValue,typeInfo,q,u,b5g,c7s,f,Result.andThen]|some C=>cases ok<;>simp[Instr.lookup,run_underlying h,n,j,o,b5g,c7s,f,Result.andThen]
def e1x(h:Rel E Z π σ ρ w){t:TypeId}{ok:Bool}(r:AVR (cx Z π σ w) a (ev ρ x))(i:AVR (cx Z π σ w) b (ev ρ y))(e:(e1g P t a b ok).Ev σ m0 m v ws):a48 P E σ ρ w ⟨d,.lookup t x y ok,ty,ps,af,g⟩ v ws:=by
 unfold e1g at e;split at e;case h_2=>exact e.elim
 rename_i u k C s;have p:=h.mem u;simp [Q.Ev]at e;split at e;case h_2=>exact e.elim
 rename_i l n;rw[n]at p;let⟨A,q,_,B⟩:=p;have j:ev ρ x=.map (some A):=by rw[r.2.1];exact q
 have i:=c0n C▸i;have i:ev ρ y=.int _ k:=i;have f:=e4j (w:=w) (k:=k) (ok:=ok) s B;cases ok;.obtain⟨o,rfl,rfl⟩:=e;exact g8 h (by simp[YV,execOp,j,i,f]) rfl
 .obtain⟨o,rfl,rfl⟩:=e;exact g8 h (by simp[YV,execOp,j,i,f]) ⟨[.int _ _,.bool _],rfl,rfl,rfl,trivial⟩
def d52{t:TypeId}{l:O (Int×Int)}{k u:Int}{b:Nat}(ht:d27 P t=true)(hb:w.heap[b]?=some (b92 l))(I:(l.map (·.1)).Nodup):(Instr.mapUpdate t (.map (some b)) (.int .i64 k) (.int .i64 u)).run P w=.ok () {w with heap:=w.heap.setIfInBounds b (b92 (a62 l k u))}/\((a62 l k u).map (·.1)).Nodup:=by
 let⟨Y,et,i,Q,N,h3,h4⟩:=c81 ht;have H:=MapKept.run_findKey (w:=w) N (d4f k l 0 0);have C:=hb;have R:(getObj b).run P w=.ok (.map ((l.zipIdx 0).map b3d).toArray _) w:=MapKept.run_getObj_map C;have S:∀o,(setObj b o).run P w=.ok () _:=λo=>MapKept.run_setObj_map o C
 have M:∀e,(Instr.checkKey e _ Y (.int _ k)).run P w=.ok () w:=λe=>MapKept.run_checkKey N (by rfl) e 9999;cases f:b5r l k with|none=>
   rw[f]at H;let⟨G,J⟩:=d1r (v:=u) f;constructor;.rw[G];simp[Instr.mapUpdate,run_underlying Q,R,M,H,S,Result.andThen,b92,zipIdx_append];rfl
   .rw[G,map_append,nodup_append];refine⟨I,by simp,λp T q j=>?_⟩;obtain⟨x,V,rfl⟩:=List.mem_map.1 T;simp [map_cons,map_nil,qF]at j;rw[j];exact J x V|some D=>
   rw[f]at H;let⟨G,J,e3⟩:=c6n (v:=u) 0 f;have X:=e3j f;have A:∃h,((l.zipIdx 0).map b3d)[c4x l k]?=some h:=⟨_,qG (by simp_all)⟩;let⟨h,F⟩:=A;constructor
   .have L:(Instr.keyThatStays _ (.int _ k)).run P w=.ok _ w:=MapKept.run_keyThatStays (d:=.int .i64) (by rfl);have K:((((l.zipIdx 0).map b3d).toArray[0+c4x l k]?).map (·.key)).getD (.int .i64 k)=.int .i64 k:=by rw[Nat.zero_add,getElem?_toArray,F];exact (by
    have:∀(l:O _)(n:Nat)(D:Int)(h:MapEntry),b5r l k=some D->((l.zipIdx n).map b3d)[c4x l k]?=some h->h.key=.int .i64 k:=by intro l;induction l with|nil=>intro n D h B;cases B|cons q r W=>
       intro n D h B s;unfold b5r at B;unfold c4x at s;split at B;.rename_i j;rw[if_pos j]at s;simp[zipIdx_cons,b3d]at s;rw[<-s,<-j]
       .rename_i j;rw[if_neg j]at s;exact W _ _ _ B s
    exact this l 0 D h f F)
    simp only[Instr.mapUpdate,Sem.run_bind,run_underlying Q,R,M,H,Result.andThen,K,L,S];have:(((l.zipIdx 0).map b3d).toArray.modify (0+c4x l k) λe=>{e with key:=.int .i64 k,val:=.int .i64 u})=((a62 l k u).zipIdx.map b3d).toArray:=by rw[Nat.zero_add,modify_toArray,G]
    rw[this,<-J];rfl
   grind
def d12(h:Rel E Z π σ ρ w){t:TypeId}(L:AVR (cx Z π σ w) a (ev ρ x))(j:AVR (cx Z π σ w) b (ev ρ y))(o:AVR (cx Z π σ w) c (ev ρ z))(f:(c62 P t a b c).Ev σ m0 m v ws):a48 P E σ ρ w ⟨d,.mapUpdate t x y z,ty,ps,af,g⟩ v ws:=by
 unfold c62 at f;split at f;case h_2=>exact f.elim
 rename_i s k u J R K;have G:=h.mem s;simp [Q.Ev]at f;split at f;case h_2=>exact f.elim
 rename_i l i;obtain⟨T,rfl,rfl⟩:=f;rw[i]at G;let⟨n,F,B,H⟩:=G;have D:ev ρ x=.map (some n):=by rw[L.2.1];exact F
 have j:=c0n J▸j;have j:ev ρ y=.int _ k:=j;have o:=c0n R▸o;have o:ev ρ z=.int _ u:=o;let⟨r,p⟩:=d52 (w:=w) (k:=k) (u:=u) K H B;have M:n<w.heap.size:=(qN.1 H).1;unfold a48 a0k;have C:(execOp (ev ρ) ⟨d,.mapUpdate t x y z,ty,ps,af,g⟩).run P w=.ok .skip {w with heap:=w.heap.setIfInBounds n (b92 (a62 l k u))}:=by simp[execOp,D,j,o,r,Result.andThen]
 rw[C];have I:Ext (λb=>MB (σ.mem s) (π s) b) w {w with heap:=w.heap.setIfInBounds n (b92 (a62 l k u))}:=⟨rfl,rfl,rfl,by simp,λq V A=>by have:n≠q:=λe=>A (by rw[i,F,e];rfl);simp_all⟩;refine⟨Z,π,h.set (λS=>by simp_all) (λS=>by grind) I (λN _ W=>?_) (λy j=>?_) λN _=>trivial⟩;.exact⟨n,F,p,by simp_all⟩
 .rw[i];exact j
end
section
variable {U:Uni} {P:Program}
def d3g{b:Type}(i t:Nat)(a:b)(l:O (Nat×b)):lk t ((i,a)::l)=if i=t then some a else lk t l:=by show(bif Nat.beq i t then some a else lk t l)=_;simp_all
def e4l{X:Cx}{a:U.AV}{u:A5}(b:a03 a=true)(h:a1p X a u):b79 X a u:=by cases a<;>first|exact h|cases b
def d4l{X:Cx}{t:TypeId}{c:U.C}{a:U.AV}{v:A5}(i:U.lay c=[a07 a])(d:a03 a=true)(h:MR X (.box t a) v):MR X (.box t (.st c [a])) v:=by let⟨b,u,f,g,e⟩:=h;exact⟨b,.agg [u.cells.toList].flatten.toArray,f,by simpa[Value.cells]using g,_,rfl,i.symm,by grind,⟨u,rfl,e4l d e⟩,trivial⟩
def d51{X:Cx}{t:TypeId}{c:U.C}{a:U.AV}{v:A5}(h:MR X (.box t (.st c [a])) v):MR X (.box t a) v:=by let⟨b,u,g,f,e,l,n,m,d⟩:=h;match e,d with|[s],d=>let⟨i,j,k⟩:=d.1;refine⟨b,i,g,?_,.of0 k⟩;rw[l]at f;rw[j];simpa[Value.cells]using f|[],d=>exact d.elim|_::_::_,d=>exact d.2.elim
section
variable {E:Env} {Z:Nat -> Prop} {π:Nat -> A5} {σ:U.St} {ρ:Nat -> A5} {w:World}
variable {m0 m:Nat} {a b v:U.AV} {ws:O (Nat×U.MC)} {fr:Nat}
variable {d:A3 Tmp} {ty:TypeId} {ps:String} {af:Array Edge} {g:A3 (Nat×Bool)} {x y z:Operand} {m0 m:Nat} {a b v:U.AV} {ws:O (Nat×U.MC)} {fr:Nat}
def Rel.rebox(h:Rel E Z π σ ρ w){id:Nat}{t:TypeId}{a f:U.AV}(e:σ.mem id=.box t a)(k:∀X v,MR X (.box t a) v->MR X (.box t f) v):Rel E Z π (σ.app none .unk [(id,.box t f)]) ρ w:=h.set (v':=undef) (λn=>by simp_all) (λn=>by grind) (Ext.refl _ w) (λl c i=>k l _ (by have:=h.mem id;rw[e]at this;exact this.le c λb _ _=>by rw[i];rfl)) (λq j=>by rw[e];exact j) λ_ _=>trivial
def e19{c:U.C}(h:f9n c=true):U.lay c=[none]:=by unfold f9n at h;grind
def e5r(p:UOK U)(h:Rel E Z π σ ρ w){t:TypeId}(n:AVR (cx Z π σ w) a (ev ρ x))(e:(f1l P t a).Ev σ m0 m v ws):a48 P E σ ρ w ⟨d,.load t x,ty,ps,af,g⟩ v ws:=by
 unfold f1l at e;split at e;case h_2=>exact e.elim
 rename_i k;have e:(match σ.mem k with|.box _ (.st _ [.ref j])=>(match b33 P t _ with|true=>Q.done _ []|false=>.fail)|_=>(.fail)).Ev σ _ m v ws:=e;have i:=h.mem k;split at e
 .rename_i B c j f;rw[f]at i;let⟨r,u,s,A,q⟩:=d51 i;split at e;.rename_i l;obtain⟨o,rfl,rfl⟩:=e;exact c1z p h (n.2.1.trans s) l ⟨u,q,A.ca⟩
  .exact e.elim
 .exact e.elim
def e0k(N:UOK U)(h:Rel E Z π σ ρ w){t:TypeId}(F:AVR (cx Z π σ w) a (ev ρ x))(I:AVR (cx Z π σ w) b (ev ρ y))(f:(e0a P t a b).Ev σ m0 m v ws):a48 P E σ ρ w ⟨d,.store t x y,ty,ps,af,g⟩ v ws:=by
 unfold e0a at f;split at f;case h_2=>exact f.elim
 rename_i o k;have f:(match σ.mem o with|.box D (.st c [.ref _])=>(match b33 P t _&&f9n c with|true=>Q.done _ _|false=>.fail)|_=>(.fail)).Ev σ _ m v ws:=f;split at f
 .rename_i D c j r;split at f
  .rename_i B;simp [qB]at B;obtain⟨K,rfl,rfl⟩:=f;have C:=h.rebox r λX v p=>d51 p;generalize n:σ.app _ _ _=s at C;have l:s.mem o=.box D (.ref j):=by rw[<-n];exact b6q
   have q:∀i,b7a σ i->b7a s i:=λi M=>by
    unfold b7a;by_cases e:i=o;.rw[e,l];intro p;cases p
    .rw[<-n,o8,a5o e];exact M
   have H:=C.mem o;rw[l]at H;let⟨L,u,G,T,S⟩:=H;refine a0k.mono (c4j N C (c:=U.c0) l (.inl rfl) trivial B.1 rfl rfl ⟨q k I.1,I.2⟩ rfl (by rw[G];rfl) ?_ (q o F.1)) λu V⟨J,A,R⟩=>⟨J,A,?_⟩;.rw[F.2.1];show π o=.pointer _;rw[G];rfl
   .refine(R.rebox b6q λX v p=>d4l (by rw[(e19 B.2)];rfl) rfl p).congrE (λt=>?_) λi=>?_;.rw[s9,s9,<-n,s9];rfl
    .by_cases e:i=o;.rw[e,o8,o8,b6v]
     .rw[o8,o8,a5o e,o8,a5o e,<-n,o8,a5o e]
  .exact f.elim
 .exact f.elim
def e0s(hU:UOK U)(h:Rel E Z π σ ρ w){t:TypeId}(f:(e1i P fr t:U.Q).Ev σ m0 m v ws):a48 P E σ ρ w ⟨d,.alloc t,ty,ps,af,g⟩ v ws:=by
 unfold e1i at f;split at f;case h_2=>exact f.elim
 rename_i e cl L K j;split at f;case h_2=>exact f.elim
 rename_i c Y W;have f:(match σ.mem fr with|.never=>Q.rdM _ _|_=>(.fail)).Ev σ _ m v ws:=f;split at f;case h_2=>exact f.elim
 rename_i M;have f:(match σ.mem _ with|.never=>Q.done _ _|_=>(.fail)).Ev σ _ m v ws:=f;split at f;case h_2=>exact f.elim
 obtain⟨R,rfl,rfl⟩:=f;have T:a48 P E σ ρ w ⟨d,.alloc t,ty,ps,af,g⟩ (.ref fr) [(fr,.box t (.nils))]:=by
  unfold b7m at j;split at j;case h_2=>cases j
  rename_i i S;split at j;case h_2=>cases j
  rename_i A o;refine b1u h (obj:=.cells A.cells t) (v':=.pointer (some ⟨w.heap.size,0,none⟩)) M ?_ (λh=>by cases h) rfl rfl (λb F=>F) ?_;.simp[execOp,Instr.alloc,zeroValue,typeInfo,S,o,newVar,newRow]
  .rintro X' G H hZ;let⟨u,V,J⟩:=c13 hU (X:=X') _ _ _ _ j;refine⟨w.heap.size,u,rfl,?_,J⟩;rw[H,V];have:=Mb.alloc w t A.cells.toList;omega
 refine a0k.mono T λu w'⟨C,N,D⟩=>?_;have h2:=D.rebox b6q λX v I=>d4l (by rw[(e19 W)];rfl) rfl I;have r:b88 P (fr+1) [{name:= "",type:=t,offset:=0,embedded:=false,tag:= "",pkgPath:= "",byteOffset:=0}] [(.nils)]=([.ref (fr+1)],[(fr+1,.sl e c [])]):=by simp [b88,L,Y]
 let⟨l,B⟩:=h2.openB (P:=P) (k:=fr+1) (fs:=[{name:= "",type:=t,offset:=0,embedded:=false,tag:= "",pkgPath:= "",byteOffset:=0}]) b6q λq p=>by rw[r]at p;obtain rfl:=qF.1 p;rw[o8,a5o (by simp),o8,a5o (by simp)];omega
 rw[r]at B;refine⟨C,l,B.congrE (λs=>?_) λi=>?_⟩;.rw[s9,s9,s9,s9];rfl
 .rw[o8,o8,o8,o8];by_cases n:i=fr;.subst n;rw[d3g,if_pos rfl]
  .rw[a5o n,a5o n]
def e8k(h:Rel E Z π σ ρ w){t:TypeId}(C:AVR (cx Z π σ w) a (ev ρ x))(c:(g39 P fr t a).Ev σ m0 m v ws):a48 P E σ ρ w ⟨d,.box t x,ty,ps,af,g⟩ v ws:=by
 unfold g39 at c;split at c;case h_2=>exact c.elim
 rename_i k K p;split at c;case h_2=>exact c.elim
 rename_i o;simp [qB]at o;have c:(match σ.mem fr with|.never=>Q.done _ _|_=>(.fail)).Ev σ _ m v ws:=c;split at c;case h_2=>exact c.elim
 rename_i q;obtain⟨A,rfl,rfl⟩:=c;have G:a48 P E σ ρ w ⟨d,.box t x,ty,ps,af,g⟩ (.ref fr) [(fr,.box t (.ref k))]:=by have e:=o.1;unfold b33 at e;simp [qB]at e;have l:=a8m (b1s e.1.1) C;refine b1u h (obj:=.cells (ev ρ x).cells t) (v':=.pointer (some ⟨w.heap.size,0,none⟩)) q (by simp[execOp,Instr.box,newVar,newRow]) (λh=>by grind) rfl rfl (λb H=>H) ?_;rintro L j r I;refine⟨w.heap.size,ev ρ x,rfl,?_,l.le j⟩;rw[r];have:=Mb.alloc w t (ev ρ x).cells.toList;omega
 refine a0k.mono G λu J⟨D,f,F⟩=>⟨D,f,?_⟩;refine(F.rebox b6q λX v B=>d4l (by rw[(e19 o.2)];rfl) rfl B).congrE (λs=>?_) λi=>?_;.rw[s9,s9,s9];rfl
 .by_cases n:i=fr;.rw[n,o8,o8,b6v]
  .rw[o8,o8,a5o n,o8,a5o n]
def Rel.fzN(h:Rel E Z π σ ρ w)(N:Nat->Prop)(i:∀b,N b->b<w.heap.size/\(E.Z b\/E.G b\/E.w0.heap.size<=b)/\∀id,¬MB (σ.mem id) (π id) b):Rel E (λb=>Z b\/N b) π σ ρ w:=by have e:(cx Z π σ w).Le (cx (λb=>Z b\/N b) π σ w):=⟨λb c=>.inl c,Ext.refl _ _,λ_ j=>⟨j,rfl⟩⟩;refine⟨λt=>AVR.le e (h.slot t),λid=>MR.le e (h.mem id) λ_ _ _=>rfl,λid b c=>?_,h.dist,λb c=>c.elim (h.zlt b) λf=>(i b f).1,λb c=>c.elim (h.zin b) λf=>(i b f).2.1,λb c=>.inl (h.zout b c),h.ext,h.pin,h.tab⟩;let⟨l,n,k⟩:=h.own id b c;grind
def e0g(hU:UOK U)(h:Rel E Z π σ ρ w){t:TypeId}(hx:AVR (cx Z π σ w) a (ev ρ x))(hy:AVR (cx Z π σ w) b (ev ρ y))(f:(d96 P t a b).Ev σ m0 m v ws):a48 P E σ ρ w ⟨d,.store t x y,ty,ps,af,g⟩ v ws:=by
 unfold d96 at f;split at f;case h_2=>exact f.elim
 rename_i q k;have f:(match σ.mem k with|.box _ a=>(match d3q a&&!(Nat.beq q k)&&b33 P t _ with|true=>Q.rdM q _|false=>.fail)|_=>(.fail)).Ev σ _ m v ws:=f;split at f;case h_2=>exact f.elim
 rename_i t2 W Y;split at f;case h_2=>exact f.elim
 rename_i G;simp [qB,Bool.not_eq_true']at G;have f:(match σ.mem q with|.box R F=>(match Nat.beq _ 1&&(b0p F==false)&&b3a F with|true=>Q.done _ _|false=>.fail)|_=>(.fail)).Ev σ _ m v ws:=f;split at f;case h_2=>exact f.elim
 rename_i R F hid;split at f;case h_2=>exact f.elim
 rename_i hs;obtain⟨_,rfl,rfl⟩:=f;have V:=h.mem k;have p:=h.own k;rw[Y]at V p;let⟨j,u,S,hM,ha⟩:=V;have B:∀b,MB (.box t2 W) (π k) b↔b=j:=λb=>by rw[S];exact⟨λo=>(qH o).symm,λo=>by rw[o];rfl⟩
 have H:MB (σ.mem k) (π k) j:=by rw[Y];exact(B j).2 rfl
 let⟨o1,X,o3⟩:=p j ((B j).2 rfl);have h1:Rel E Z π (σ.app none .unk [(k,.dead)]) ρ w:=h.set (mc:=.dead) (v':=undef) (λo=>by simp_all) (λo=>by cases o) (Ext.refl _ w) (λ_ _ _=>trivial) (λb K=>K.elim) λ_ _=>trivial;have N:=Rel.fzN h1 (λb=>b=j) λb K=>by
  subst K;refine⟨X,.inr o3,λi r=>?_⟩;rw[o8]at r;by_cases e:i=k;.rw[e,b6v]at r;exact r
  .rw[a5o e]at r;exact (h.dist k) i b (Ne.symm e) H r
 generalize n:σ.app _ _ _=C at N;have J:∀i,b7a σ i->b7a C i:=λi r=>by
  unfold b7a;by_cases e:i=k;.rw[e,<-n,b6q];intro o;cases o
  .rw[<-n,o8,a5o e];exact r
 have l:C.mem q=.box R F:=by rw[<-n,o8,a5o (Nat.ne_of_beq_eq_false G.1.2)];omega
 have D:=N.mem q;rw[l]at D;let⟨T,u2,A,hM2,ha2⟩:=D;refine a0k.mono (c4j hU N (c:=U.c0) l (.inl rfl) trivial G.2 rfl ?_ (by
  refine⟨⟨j,0,none⟩,u.cells.toList,hy.2.1.trans S,X,λI=>I (.inr rfl),hM.ca,?_⟩;exact(b4w (.inl (by have:=G.1.1;cases W<;>first|rfl|cases this)) ha).weaken λb _ I hz=>I (.inl hz)) rfl (by rw[A];rfl) ?_ (J q hx.1)) λu w'⟨Z',L,hR⟩=>⟨Z',L,hR.congrE (λs=>?_) λi=>?_⟩;.exact hs
 .rw[hx.2.1];show π q=.pointer _;rw[A];rfl
 .rw[s9,<-n,s9];rfl
 .rw[o8,o8];by_cases M:i=q;.subst M;rw[d3g,if_pos rfl,b6v]
  .rw[d3g,if_neg (Ne.symm M),a5o M,<-n,o8]
theorem l8j (v:Value) (w:World) (h:v.oneCell'=true):a1p (⟨fun _=>False,fun _=>v,fun _=>True,w⟩:Cx) (.ref 0:U.AV) v:=⟨trivial,rfl,h⟩
theorem l8q {X:Cx}: ∀{as:List U.AV} {vs:List Value},as.all isRf=true -> y7 (a1p X) as vs -> y7 (l9j X) as vs
 | [],[],_,_=>trivial
 | a::as,v::vs,hp,h=>by
   rw [List.all_cons,qB] at hp
   exact ⟨(by cases a<;>first | exact h.1 | (cases hp.1)),l8q hp.2 h.2⟩
 | [],_::_,_,h=>h.elim
 | _::_,[],_,h=>h.elim
theorem l7v (hU:UOK U) (h:Rel E Z π σ ρ w) {t:TypeId} (hx:AVR (cx Z π σ w) a (ev ρ x)) (hev:(l92 P t a).Ev σ m0 m v ws):a48 P E σ ρ w ⟨d,.load t x,ty,ps,af,g⟩ v ws:=by
 unfold l92 at hev
 split at hev
 case h_2=>exact hev.elim
 rename_i id
 have hev:(match σ.mem id with
  | .box _ (.clo f as)=>(match b33 P t (.ref 0:U.AV) with | true=>Q.done (.clo f as) [] | false=> .fail)
  | _=>(.fail:U.Q)).Ev σ _ m v ws:=hev
 have hm:=h.mem id
 split at hev
 case h_2=>exact hev.elim
 rename_i t' f as hmem
 rw [hmem] at hm
 obtain ⟨blk,u,hv,hM,ha⟩:=hm
 split at hev
 case h_2=>exact hev.elim
 rename_i hf
 obtain ⟨_,rfl,rfl⟩:=hev
 have h1:u.oneCell'=true:=by obtain ⟨vs,rfl,_⟩:=ha;rfl
 exact g8 h (d32 (hx.2.1.trans hv) (c8g (X:=⟨fun _=>False,fun _=>u,fun _=>True,w⟩) hU hf (l8j u w h1) hM.ca)) (AVR.of1 ha)
theorem m41: ∀cs:List Value,cs=(cs.map fun v=>[v]).flatten
 | []=>rfl
 | v::cs=>congrArg (v:: ·) (m41 cs)
theorem l7k {R: ∀c,TyR (U.T c)} {G:Nat -> Prop} {w:World}: ∀{as:List U.AV} {cs:List Value},as.map intV=cs.map some -> y7 (e8 R G w) as (cs.map fun v=>[v]) /\ cs.length=((as.map a07).map osz).sum
 | [],[],_=>⟨trivial,rfl⟩
 | a::as,v::cs,h=>by
   obtain ⟨h1,h2⟩:=l7k (List.cons.inj h).2
   have h3:=(List.cons.inj h).1
   cases a<;>cases h3
   exact ⟨⟨rfl,h1⟩,by simp only [List.length_cons,List.map_cons,List.sum_cons,h2];exact Nat.add_comm _ _⟩
 | [],_::_,h=>by cases h
 | _::_,[],h=>by cases h
theorem l7x (hU:UOK U) (h:Rel E Z π σ ρ w) {t:TypeId} (hev:(l8x P t x).Ev σ m0 m v ws):a48 P E σ ρ w ⟨d,.load t x,ty,ps,af,g⟩ v ws:=by
 unfold l8x at hev
 split at hev
 case h_2=>exact hev.elim
 rename_i gi
 split at hev
 case h_2=>exact hev.elim
 rename_i y hy
 split at hev
 case h_2=>exact hev.elim
 rename_i hf
 obtain ⟨_,rfl,rfl⟩:=hev
 obtain ⟨cs,hc,he⟩:=hU.gvK w gi y (h.tabw hU) hy
 obtain ⟨h1,h2⟩:=l7k (R:=Rd 0) (G:=(cx Z π σ w).G) (w:=w) he
 refine c1z hU h (ad:=⟨gi,0,none⟩) rfl hf ⟨.agg cs.toArray,⟨cs,rfl,1,?_,cs.map fun v=>[v],?_,h1⟩,hc⟩
 ·rw [h2,hU.lay,hU.sum]
 ·exact m41 cs
theorem l73 (hU:UOK U) (h:Rel E Z π σ ρ w) {t:TypeId} (hx:AVR (cx Z π σ w) a (ev ρ x)) (hy:AVR (cx Z π σ w) b (ev ρ y)) (hev:(l7c P t a b).Ev σ m0 m v ws):a48 P E σ ρ w ⟨d,.store t x y,ty,ps,af,g⟩ v ws:=by
 unfold l7c at hev
 split at hev
 case h_2=>exact hev.elim
 rename_i id f as
 split at hev
 case h_2=>exact hev.elim
 rename_i hc
 simp only [qB] at hc
 have hev:(match σ.mem id with
  | .box t' (.ref _)=>Q.done .undef [(id,.box t' (.clo f as))]
  | _=>(.fail:U.Q)).Ev σ _ m v ws:=hev
 have hm:=h.mem id
 split at hev
 case h_2=>exact hev.elim
 rename_i t' j hmem
 rw [hmem] at hm
 obtain ⟨_,rfl,rfl⟩:=hev
 obtain ⟨blk,u,hv,hM,ha⟩:=hm
 have hu1:u.cells.toList.length=1:=by
  have:u.oneCell'=true:=ha.2.2
  cases u<;>first | rfl | cases this
 obtain ⟨vs,hyv,hvs⟩:=hy
 have hy1:(ev ρ y).oneCell'=true:=by rw [hyv];rfl
 have hyc:(ev ρ y).cells.toList=[ev ρ y]:=by rw [hyv];rfl
 have hY:=d4w (P:=P) (ρ:=ρ) (w:=w) (G:=fun q=>q=blk) (o:=⟨d,.store t x y,ty,ps,af,g⟩) (Φ:=fun w'=>Mb w' blk t' (u.cells.toList.take 0++(ev ρ y).cells.toList++u.cells.toList.drop (0+(ev ρ y).cells.toList.length)))
  fun F pl hF hmu=>c2z (a:=⟨blk,0,none⟩) hF hmu (fun _ h=>h) ((hx.2.1.trans hv).trans rfl) rfl rfl hM (fun ad w=>d08 hU hc.2 (l8j (ev ρ y) w hy1) ad w) (by rw [hyc,hu1];exact Nat.le_refl _) rfl (by rw [hyc];intro q hq;rw [qF.1 hq];exact hy1)
 have hY2:a0k P ⟨d,.store t x y,ty,ps,af,g⟩ (ev ρ) w fun v w'=>v=undef /\ Ext (fun q=>q=blk) w w' /\ Mb w' blk t' [ev ρ y]:=by
  unfold a0k at hY⊢
  simp only [execOp,Sem.run_bind] at hY⊢
  cases hr:(Instr.storeAt t (ev ρ x) (ev ρ y)).run P w with
  | halt h0 w0=>rw [hr] at hY;exact hY.elim
  | ok v0 w0=>
    rw [hr] at hY
    obtain ⟨h1,h2⟩:=hY
    rw [hyc,List.take_zero,List.drop_of_length_le (by rw [hu1];simp)] at h2
    exact ⟨trivial,h1,h2⟩
 refine hY2.mono fun v w' ⟨hv0,hE,hM'⟩=>⟨Z,π,?_⟩
 subst hv0
 refine h.set hx.1 (fun hh=>by cases hh) (hE.mono fun q hq=> ?_) (fun X' hX hw=> ?_) (fun q hq=> ?_) (fun X' hX=>rfl)
 ·subst hq;rw [hmem,hv];rfl
 ·rw [hv]
  refine ⟨blk,ev ρ y,rfl,?_,vs,hyv,(l8q hc.1 hvs).mono fun _ _ hh=>hh.le hX⟩
  rw [hyc,hw];exact hM'
 ·rw [hmem];exact hq
theorem l79 (h:Rel E Z π σ ρ w) {t:TypeId} (hev:(l78 P fr t:U.Q).Ev σ m0 m v ws):a48 P E σ ρ w ⟨d,.alloc t,ty,ps,af,g⟩ v ws:=by
 unfold l78 at hev
 split at hev
 case h_2=>exact hev.elim
 rename_i i hi
 split at hev
 case h_2=>exact hev.elim
 rename_i zv hzv
 split at hev
 case h_2=>exact hev.elim
 rename_i h1
 have hev:(match σ.mem fr with | .never=>Q.rdM (fr+1) (fun (q:U.MC)=>match q with | .never=>Q.done (.ref fr) [(fr,.box t (.ref (fr+1))),(fr+1,.dead)] | _=> .fail) | _=>(.fail:U.Q)).Ev σ _ m v ws:=hev
 split at hev
 case h_2=>exact hev.elim
 rename_i hn
 have hev:(match σ.mem (fr+1) with | .never=>Q.done (.ref fr) [(fr,.box t (.ref (fr+1))),(fr+1,.dead)] | _=>(.fail:U.Q)).Ev σ _ m v ws:=hev
 split at hev
 case h_2=>exact hev.elim
 rename_i hn1
 obtain ⟨_,rfl,rfl⟩:=hev
 have hz1:zv.cells.toList=[zv]:=by cases zv<;>first | rfl | cases h1
 have hA:=h.new (fr:=fr+1) (mc:= .dead) (dead:=[]) (v':=zv) (w':=w) (d:=none) hn1 (fun hh=>by cases hh) (Ext.refl _ w) (fun _ _ _ _=>trivial) (fun b hb=>hb.elim) h1
 generalize hs1:σ.app none (.ref (fr+1)) ((fr+1,(.dead:U.MC))::([]:List Nat).map fun id=>(id,.dead))=σ1 at hA
 have hm1: ∀j,σ1.mem j=if j=fr+1 then .dead else σ.mem j:=fun j=>by
  rw [<- hs1]
  by_cases e:j=fr+1
  ·rw [if_pos e,e];exact b6q
  ·rw [if_neg e,o8];exact congrArg (fun q=>match q with | some m=>m | none=>σ.mem j) (a5o e)
 have hg:a48 P E σ1 ρ w ⟨d,.alloc t,ty,ps,af,g⟩ (.ref fr) [(fr,.box t (.ref (fr+1)))]:=by
  refine b1u hA (obj:= .cells zv.cells t) (v':= .pointer (some ⟨w.heap.size,0,none⟩)) (by rw [hm1,if_neg (by omega)];exact hn) ?_ (fun h=>by cases h) rfl rfl (fun b hb=>hb) ?_
  ·simp [execOp,Instr.alloc,zeroValue,typeInfo,hi,hzv,newVar,newRow]
  ·rintro X' hle hw hZ
   refine ⟨w.heap.size,zv,rfl,?_,?_⟩
   ·rw [hw]
    have:=Mb.alloc w t zv.cells.toList
    simpa using this
   ·have h2:=hle.u (fr+1) (by show b7a σ1 (fr+1);unfold b7a;rw [hm1,if_pos rfl];intro hh;cases hh)
    refine ⟨h2.1,?_,h1⟩
    rw [h2.2]
    exact (show c0j π (fr+1) zv (fr+1)=zv from by unfold c0j;simp).symm
 refine a0k.mono hg fun u w' ⟨Z',π',hR⟩=>⟨Z',π',hR.congrE (fun s=> ?_) fun j=> ?_⟩
 ·rw [s9,s9,<- hs1,s9];rfl
 ·rw [o8,o8]
  by_cases e1:j=fr
  ·subst e1;rw [d3g,if_pos rfl,b6v]
  ·rw [d3g,if_neg (Ne.symm e1),a5o e1,hm1]
   by_cases e2:j=fr+1
   ·subst e2;rw [b6v,if_pos rfl]
   ·rw [a5o e2,if_neg e2]
end
end
section
variable {P:Program} {U:Uni}
variable {E:Env} {Z:Nat -> Prop} {π:Nat -> A5} {σ:U.St} {ρ:Nat -> A5} {w:World}
variable {m0 m:Nat} {a b v:U.AV} {ws:O (Nat×U.MC)} {fr:Nat}
def OKΦ(P:Program)(Φ:Phi U):Prop:=∀f d c,Φ f d=some c->c9b P f c
def d47{c:Type}{a:Array c}{x:c}(h:a.toList=[x]):a=#[x]:=by apply Array.ext';omega
def d44{c:Type}{a:Array c}{x y:c}(h:a.toList=[x,y]):a=#[x,y]:=by apply Array.ext';omega
def c1h(A:UOK U){Φ:Phi U}(H:OKΦ P Φ)(h:Rel E Z π σ ρ w){o:Oper}(j:(opQ P Φ fr o.op).Ev σ m0 m v ws):a48 P E σ ρ w o v ws:=by
 let⟨d,N,ty,ps,af,g⟩:=o;cases N<;>try exact j.elim
 case move x=>exact d5a h (.inl rfl) j
 case assign x=>exact d5a h (.inr rfl) j
 case pick c x y=>
  let⟨e,l,he,j⟩:=u6 h j;let⟨p,C,hp,j⟩:=u6 h j;let⟨q,m3,hq,j⟩:=u6 h j;unfold g8b at j;split at j;.obtain⟨V,rfl,rfl⟩:=j;exact f1x h he hp hq
  .exact j.elim
 case alloc t=>exact e60 A h j
 case box t x=>let⟨a,l,k,j⟩:=u6 h j;exact f7w h k j
 case build t L=>
  let⟨J,l,B,j⟩:=c5c h j;split at j;.exact e1q A h B j
  .exact e6e A h B j
 case buildSlice t n L=>let⟨J,l,B,j⟩:=c5c h j;exact d09 A h B j
 case load t x=>let⟨a,l,k,j⟩:=u6 h j;exact f0k A h k j
 case store t x y=>let⟨a,l,k,j⟩:=u6 h j;let⟨b,C,u,j⟩:=u6 h j;exact e4s A h k u j
 case range t x=>let⟨a,l,k,j⟩:=u6 h j;exact e5m h k j
 case next x b=>
  cases b;.let⟨a,l,k,j⟩:=u6 h j;exact e66 h k j
  .let⟨a,l,k,j⟩:=u6 h j;exact f2t h k j
 case makeInterface t x=>
  let⟨a,l,k,j⟩:=u6 h j;split at j;.rename_i e id G;obtain⟨V,rfl,rfl⟩:=j;exact g8 h (by simp[YV,execOp,Instr.makeInterface,underlying,G]) ⟨_,rfl,k⟩
  .exact j.elim
 case nilCheck x=>let⟨a,l,k,j⟩:=u6 h j;exact f7h h k j
 case binOp N t x y t'=>
  let⟨a,l,k,j⟩:=u6 h j;let⟨b,C,u,j⟩:=u6 h j;split at j;.rename_i I;exact f3p A h I k u j
  .exact f7z h k u j
 case unOp N t x=>let⟨a,l,k,j⟩:=u6 h j;exact g5v h k j
 case convert s t x=>
  let⟨a,l,k,j⟩:=u6 h j;split at j;.rename_i u;exact f3o A h u k j
  .exact e9j h k j
 case makeFunc fn D X=>
  simp [opQ]at j;split at j
  .have:D=#[]:=by simp_all
   subst this;exact d43 h j
  .rename_i f S hf;split at j
   .have W:D=#[S]:=by apply Array.ext';omega
    have e2:X=#[]:=by simp_all
    subst W;subst e2;let⟨a,l,k,j⟩:=u6 h j;split at j;.obtain⟨V,rfl,rfl⟩:=j;exact g8 h (by simp[YV,execOp,Instr.makeFunc]) ⟨ev ρ S,rfl,k⟩
    .exact j.elim
   .exact j.elim
  .exact j.elim
 case slice t x lo Q T=>cases T with
  |some T=>cases Q with|none=>exact j.elim|some Q=>let⟨a,l,k,j⟩:=u6 h j;exact d9t A h k j
  |none=>let⟨a,l,k,j⟩:=u6 h j;exact e57 A h k j
 case makeSlice t x y=>let⟨a,l,k,j⟩:=u6 h j;let⟨b,C,u,j⟩:=u6 h j;exact d0y A h k u j
 case makeMap t r=>cases r with|some _=>exact j.elim|none=>exact d7x h j
 case lookup t x y ok=>let⟨a,l,k,j⟩:=u6 h j;let⟨b,C,u,j⟩:=u6 h j;exact e1x h k u j
 case mapUpdate t x y z=>let⟨a,l,k,j⟩:=u6 h j;let⟨b,C,u,j⟩:=u6 h j;let⟨c,m3,hc,j⟩:=u6 h j;exact d12 h k u hc j
 case fieldAddr s x f=>
  let⟨a,l,k,j⟩:=u6 h j;split at j;.exact d98 h k j
  .exact e5z A h k j
 case field s x f=>let⟨a,l,k,j⟩:=u6 h j;exact e5u A h k j
 case indexAddr t x y=>let⟨a,l,k,j⟩:=u6 h j;let⟨b,C,u,j⟩:=u6 h j;exact d11 A h k u j
 case index t x y=>let⟨a,l,k,j⟩:=u6 h j;let⟨b,C,u,j⟩:=u6 h j;exact e4h A h k u j
 case extract x i=>let⟨a,l,k,j⟩:=u6 h j;exact d5k h k j
 case call c=>
  let⟨K,R,tys⟩:=c
  cases K with|invoke _ _=>exact j.elim|value x=>
    let⟨a,l,k,j⟩:=u6 h j;split at j;.let⟨vs,I,M⟩:=k;let⟨J,C,B,j⟩:=c5c h j;exact d6c A H h I M B j
    .rename_i f c y;let⟨r,I,hr⟩:=k;let⟨J,C,B,j⟩:=c5c h j;exact d6c (cs:=[]) (as:=.val c y::J) A H h I trivial ⟨AVR.of1 hr,B⟩ (by rw[append_nil];omega)
    .exact j.elim|builtin Y=>
    cases Y<;>try exact j.elim
    case append=>
     simp [opQ]at j;split at j
     .rename_i x y t t' F G;split at j;.rename_i u;have:=qC u;subst this;let⟨a,l,k,j⟩:=u6 h j;let⟨b,C,u,j⟩:=u6 h j;rw[d44 F,d44 G];exact f6j A h k u j
      .exact j.elim
     .exact j.elim
    case clear=>
     simp [opQ]at j;split at j;.rename_i x t F G;let⟨a,l,k,j⟩:=u6 h j;rw[d47 F,d47 G];exact e6s A h k j
     .exact j.elim
    case len=>
     simp [opQ]at j;split at j;.rename_i x t F G;let⟨a,l,k,j⟩:=u6 h j;rw[d47 F,d47 G];exact f7e h k j
     .exact j.elim
    case max=>
     simp [opQ]at j;split at j;.rename_i x y F;let⟨a,l,k,j⟩:=u6 h j;let⟨b,C,u,j⟩:=u6 h j;rw[d44 F];exact e9w h k u j
     .exact j.elim
    case min=>
     simp [opQ]at j;split at j;.rename_i x y F;let⟨a,l,k,j⟩:=u6 h j;let⟨b,C,u,j⟩:=u6 h j;rw[d44 F];exact e9w h k u j
     .exact j.elim
theorem f3z (hU:UOK U) {Φ:Phi U} (hΦ:OKΦ P Φ) (h:Rel E Z π σ ρ w) {o:Oper} {sp:List Nat} {i:Nat} (hev:(opX P Φ sp i fr o.op).Ev σ m0 m v ws):a48 P E σ ρ w o v ws:=by
 unfold opX at hev
 split at hev
 ·exact c1h hU hΦ h hev
 ·split at hev
  ·rename_i t x lo hi hop
   obtain ⟨d,op,ty,ps,af,g⟩:=o
   subst hop
   split at hev
   ·obtain ⟨a,m1,ha,hev⟩:=u6 h hev
    exact f1w h ha hev
   ·obtain ⟨a,m1,ha,hev⟩:=u6 h hev
    exact e84 h ha hev
   ·exact c1h hU hΦ h hev
  ·rename_i t x y hop
   obtain ⟨d,op,ty,ps,af,g⟩:=o
   subst hop
   split at hev
   ·obtain ⟨a,m1,ha,hev⟩:=u6 h hev
    obtain ⟨b,m2,hb,hev⟩:=u6 h hev
    exact e04 hU h ha hb hev
   ·split at hev
    ·obtain ⟨a,m1,ha,hev⟩:=u6 h hev
     obtain ⟨b,m2,hb,hev⟩:=u6 h hev
     exact e0k hU h ha hb hev
    ·split at hev
     ·obtain ⟨a,m1,ha,hev⟩:=u6 h hev
      obtain ⟨b,m2,hb,hev⟩:=u6 h hev
      exact e0g hU h ha hb hev
     ·split at hev
      ·obtain ⟨a,m1,ha,hev⟩:=u6 h hev
       obtain ⟨b,m2,hb,hev⟩:=u6 h hev
       exact l73 hU h ha hb hev
      ·exact c1h hU hΦ h hev
  ·rename_i t x hop
   obtain ⟨d,op,ty,ps,af,g⟩:=o
   subst hop
   split at hev
   ·obtain ⟨a,m1,ha,hev⟩:=u6 h hev
    exact e6h hU h ha hev
   ·split at hev
    ·obtain ⟨a,m1,ha,hev⟩:=u6 h hev
     exact e5r hU h ha hev
    ·split at hev
     ·obtain ⟨a,m1,ha,hev⟩:=u6 h hev
      exact l7v hU h ha hev
     ·split at hev
      ·exact l7x hU h hev
      ·exact c1h hU hΦ h hev
  ·rename_i t hop
   obtain ⟨d,op,ty,ps,af,g⟩:=o
   subst hop
   split at hev
   ·exact e0s hU h hev
   ·split at hev
    ·exact l79 h hev
    ·exact c1h hU hΦ h hev
  ·rename_i t x hop
   obtain ⟨d,op,ty,ps,af,g⟩:=o
   subst hop
   split at hev
   ·obtain ⟨a,m1,ha,hev⟩:=u6 h hev
    exact e8k h ha hev
   ·exact c1h hU hΦ h hev
  ·exact c1h hU hΦ h hev
def g7t(σ σ':U.St)(m:Nat):Prop:=(∀t,m.testBit (2*t)=true->σ'.slot t=σ.slot t)/\∀c,m.testBit (2*c+1)=true->σ'.mem c=σ.mem c
def e73{q:U.Q}:∀{m0 m:Nat}{v:U.AV}{ws:O (Nat×U.MC)},q.Ev σ m0 m v ws->∀i,m0.testBit i=true->m.testBit i=true:=by induction q with
 |rdT t k c=>intro m0 m v ws h i d;exact c _ h.2 i (by simp_all)|rdM j k c=>intro m0 m v ws h i d;exact c _ h i (by simp_all)|opt o k c=>intro m0 m v ws h i d;let⟨b,_,h⟩:=h;grind|cas o n k e c=>
   intro m0 m v ws h i d;rcases h with⟨_,h⟩|⟨b,_,h⟩;.grind
   grind|done g f=>intro m0 m v ws h i d;rw[h.1];omega|fail=>intro m0 m v ws h;exact h.elim
def e3u{σ':U.St}{q:U.Q}:∀{m0 m:Nat}{v:U.AV}{ws:O (Nat×U.MC)},q.Ev σ m0 m v ws->g7t σ σ' m->q.Ev σ' m0 m v ws:=by
 induction q with|rdT t k f=>intro m0 m v ws h c;have d:=e73 h.2 (2*t) (by simp_all);have e:=c.1 t d;refine⟨by rw[e];exact h.1,?_⟩;rw[e];exact f _ h.2 c|rdM i k f=>intro m0 m v ws h c;have h:(k _).Ev σ _ m v ws:=h;have d:=e73 h (2*i+1) (by simp_all);have e:=c.2 i d;show(k _).Ev σ' _ m v ws;simp_all|opt o k f=>intro m0 m v ws h c;let⟨b,d,h⟩:=h;exact⟨b,d,f b h c⟩|cas o n k g f=>
   intro m0 m v ws h c;rcases h with⟨d,h⟩|⟨b,d,h⟩;.exact .inl ⟨d,g h c⟩
   .exact .inr ⟨b,d,f b h c⟩|done l j=>intro m0 m v ws h c;exact h|fail=>intro m0 m v ws h;exact h.elim
def c8x{R:Type}{q:U.Q}:∀{m0:Nat}{K:Nat->U.AV->O (Nat×U.MC)->A3 R}{r:R},q.eval σ m0 K=some r->∃m v ws,q.Ev σ m0 m v ws/\K m v ws=some r:=by induction q with
 |rdT t k c=>intro m0 K r h;simp [Q.eval]at h;cases i:σ.slot t<;>rw[i]at h<;>first|(cases h)|(let⟨m,v,ws,e,d⟩:=c _ h;exact⟨m,v,ws,⟨(by simp_all),(by simp_all)⟩,d⟩)
 |rdM l k c=>intro m0 K r h;exact c _ h|opt o k c=>intro m0 K r h;let⟨b,j,h⟩:=g7a (show o.bind _=some r from h);let⟨m,v,ws,e,d⟩:=c b h;exact⟨m,v,ws,⟨b,j,e⟩,d⟩|cas o n k f c=>intro m0 K r h;cases g:o with|none=>rw[g]at h;let⟨m,v,ws,e,d⟩:=f h;exact⟨m,v,ws,.inl ⟨rfl,e⟩,d⟩|some b=>rw[g]at h;let⟨m,v,ws,e,d⟩:=c b h;exact⟨m,v,ws,.inr ⟨b,rfl,e⟩,d⟩
 |done v ws=>intro m0 K r h;exact⟨m0,v,ws,⟨rfl,rfl,rfl⟩,h⟩|fail=>intro m0 K r h;cases h
end
section
variable {P:Program} {U:Uni} {Φ:Phi U}
structure En(U:Uni)where
 d:A3 Tmp
 m:Nat
 v:U.AV
 ws:O (Nat×U.MC)
def c88(P:Program)(Φ:Phi U)(C:RegC)(i:Nat)(o:Oper)(σ:U.St)(e:En U):Prop:=e.d=o.dst/\((gq C.ops o (opX P Φ C.sp i (C.base+16*i) o.op)).Ev σ 0 e.m e.v e.ws\/(gq C.ops o (f8p o.op)).Ev σ 0 e.m e.v e.ws)
def Tr(P:Program)(Φ:Phi U)(C:RegC):Nat->O Oper->U.St->O (En U)->U.St->Prop|_,[],b,[],a=>a=b|k,o::c,b,e::d,a=>c88 P Φ C k o b e/\Tr P Φ C (k+1) c (b.app e.d e.v e.ws) d a|_,_,_,_,_=>False
def Tr.append{C:RegC}:∀{k:Nat}{os d:O Oper}{σ a c:U.St}{g b:O (En U)},Tr P Φ C k os σ g a->Tr P Φ C (k+os.length) d a b c->Tr P Φ C k (os++d) σ (g++b) c|k,[],d,σ,a,c,[],b,h,i=>by have h:a=σ:=h;simp_all|k,o::os,d,σ,a,c,e::g,b,h,i=>⟨h.1,Tr.append h.2 (by grind)⟩|_,[],_,_,_,_,_::_,_,h,_=>h.elim|_,_::_,_,_,_,_,[],_,h,_=>h.elim
def Tr.len{C:RegC}:∀{k:Nat}{os:O Oper}{σ a:U.St}{b:O (En U)},Tr P Φ C k os σ b a->b.length=os.length|k,[],σ,a,[],h=>rfl|k,o::os,σ,a,e::b,h=>by simp[Tr.len h.2]|_,[],_,_,_::_,h=>h.elim|_,_::_,_,_,[],h=>h.elim
def e6v(σ σ':U.St):Prop:=(∀t,σ.slot t=.unk\/σ'.slot t=σ.slot t)/\∀a,σ'.mem a=σ.mem a
def e6v.app{σ σ':U.St}(h:e6v σ σ')(d:A3 Tmp)(v:U.AV)(a:O (Nat×U.MC)):e6v (σ.app d v a) (σ'.app d v a):=by
 refine⟨λt=>?_,λb=>?_⟩
 .rw[s9,s9];split;.simp_all
  .exact h.1 t
 .rw[o8,o8,h.2 b]
def e6v.ev{σ σ':U.St}(h:e6v σ σ'){q:U.Q}:∀{d m:Nat}{v:U.AV}{c:O (Nat×U.MC)},q.Ev σ d m v c->q.Ev σ' d m v c:=by
 induction q with|rdT t k f=>intro d m v c a;have e:=(h.1 t).resolve_left a.1;exact⟨(by rw[e];exact a.1),(by rw[e];exact f _ a.2)⟩|rdM j k f=>intro d m v c a;show(k _).Ev σ' _ m v c;rw[h.2 j];exact f _ a|opt o k f=>intro d m v c a;let⟨b,g,a⟩:=a;exact⟨b,g,f b a⟩|cas o n k i f=>
   intro d m v c a;rcases a with⟨g,a⟩|⟨b,g,a⟩;.exact .inl ⟨g,i a⟩
   .exact .inr ⟨b,g,f b a⟩|done p l=>intro d m v c a;exact a|fail=>intro d m v c a;exact a.elim
def f2q{σ:U.St}{q:U.Q}(x:Nat):∀{d m:Nat}{v:U.AV}{c:O (Nat×U.MC)},q.Ev σ d m v c->q.Ev σ (x|||d) (x|||m) v c:=by
 induction q with|rdT t k e=>intro d m v c a;refine⟨a.1,?_⟩;have:=e _ a.2;grind|rdM i k e=>intro d m v c a;have:=e _ (show(k _).Ev σ _ m v c from a);rw[<-Nat.or_assoc]at this;exact this|opt o k e=>intro d m v c a;let⟨b,f,a⟩:=a;exact⟨b,f,e b a⟩|cas o n k g e=>
   intro d m v c a;rcases a with⟨f,a⟩|⟨b,f,a⟩;.exact .inl ⟨f,g a⟩
   .exact .inr ⟨b,f,e b a⟩|done j h=>intro d m v c a;exact⟨by rw[a.1],a.2⟩|fail=>intro d m v c a;exact a.elim
def Sub(m s:Nat):Prop:=∀i,m.testBit i=true->s.testBit i=true
def e91{m s:Nat}(h:h38 m s=true):Sub m s:=by intro i a;have:=qC h;grind
def c2k(C:RegC)(a:O (Nat×Bool))(σ:U.St):Prop:=∀q∈a,∃t,c5h C.ops q.1=some t/\σ.slot t=.bool q.2
def c2k.app{C:RegC}{a:O (Nat×Bool)}{σ:U.St}(h:c2k C a σ){d:A3 Tmp}{v:U.AV}{e:O (Nat×U.MC)}(c:d7z C a d=true):c2k C a (σ.app d v e):=by
 intro q b;let⟨t,g,i⟩:=h q b;refine⟨t,g,?_⟩;rw[s9];split;.rename_i f;subst f;have:=qX.1 c q b;simp_all
 omega
def h1t(e:En U)(w:Nat):Prop:=(∀d,e.d=some d->w.testBit (2*d)=true)/\∀a m,lk a e.ws=some m->w.testBit (2*a+1)=true
def f2z(C:RegC)(d:O (Nat×Bool))(k:Nat)(os:O Oper)(f:O (En U))(b a:O (Nat×Nat×Nat)):Prop:=match d with|[]=>∃c:O (Nat×Nat×Nat),a=c.reverse++b/\(C.draw=true->b6z C c b=true)/\c.length=f.length/\∀(j:Nat)(e:En U)(g:Nat×Nat×Nat),f[j]?=some e->c[j]?=some g->g.1=k+j/\Sub e.m g.2.1/\h1t e g.2.2|_::_=>a=b/\∀(j:Nat)(e:En U)(o:Oper),f[j]?=some e->os[j]?=some o->e.ws=[]/\Sub e.m (b9d C.ops o C.lim)
def c56{C:RegC}:∀(a b c:O (Nat×Nat×Nat)),b6z C a c=true->b6z C b (a.reverse++c)=true->b6z C (a++b) c=true|[],b,c,_,h=>by simp_all|e::a,b,c,h,f=>by simp [b6z,qB]at h;simp [cons_append,b6z,qB];exact⟨h.1,c56 a b _ h.2 (by simp_all)⟩
def p5{b:Type}{l r:O b}{j:Nat}{a:b}(h:(l++r)[j]?=some a):(j<l.length/\l[j]?=some a)\/(l.length<=j/\r[j-l.length]?=some a):=by
 rcases Nat.lt_or_ge j _ with c|c;.rw[getElem?_append_left c]at h;simp_all
 grind
def f2z.append{C:RegC}{d:O (Nat×Bool)}{k:Nat}{os l:O Oper}{r m:O (En U)}{v x w:O (Nat×Nat×Nat)}(D:r.length=os.length)(h:f2z C d k os r v x)(q:f2z C d (k+os.length) l m x w):f2z C d k (os++l) (r++m) v w:=by
 cases d with|nil=>
   let⟨z,s,E,u,A⟩:=h;let⟨p,G,y,I,H⟩:=q;refine⟨z++p,by rw[G,s];simp,λt=>c56 _ _ _ (E t) (by rw[<-s];exact y t),by simp[u,I],λj e g b f=>?_⟩;rcases p5 b with⟨n,b⟩|⟨n,b⟩
   .rcases p5 f with⟨a,f⟩|⟨a,f⟩;.exact A j e g b f
    omega
   .rcases p5 f with⟨a,f⟩|⟨a,f⟩;.omega
    .rw[u]at f;let⟨J,B,F⟩:=H _ e g b f;exact⟨by omega,B,F⟩|cons c d=>
   refine⟨q.1.trans h.1,λj e o b i=>?_⟩;rcases p5 b with⟨n,b⟩|⟨n,b⟩
   .rcases p5 i with⟨a,i⟩|⟨a,i⟩;.exact h.2 j e o b i
    omega
   .rcases p5 i with⟨a,i⟩|⟨a,i⟩;.omega
    .rw[D]at b;exact q.2 _ e o b i
def f7u{l:O Nat}{k:Nat}(h:k∈l):(bits l).testBit k=true:=by
 have a:∀(l:O Nat)(m:Nat),(m.testBit k=true\/k∈l)->(l.foldl (λm k=>m|||2^k) m).testBit k=true:=by intro l;induction l with|nil=>simp_all|cons x l b=>grind
 exact a l 0 (.inr h)
def d2z{a:O Oper}{o:Oper}{b t:Nat}(h:t∈f5i o):(b9d a o b).testBit (2*t)=true:=by unfold b9d;rw[Nat.testBit_or,Nat.testBit_or,f7u (mem_map_of_mem h)];rfl
def b9p{a:O Oper}{o:Oper}{b g t:Nat}{w:Bool}(h:o.guard=some (g,w))(c:c5h a g=some t):(b9d a o b).testBit (2*t)=true:=by unfold b9d;simp_all
def d2y:∀(os:O Oper)(k:Nat)(p:Nat×Oper->Bool),∃a b,os=a++b/\(b34 k os).takeWhile p=b34 k a/\(b34 k os).dropWhile p=b34 (k+a.length) b/\∀q∈b34 k a,p q=true|[],k,p=>⟨[],[],rfl,rfl,rfl,λq h=>by cases h⟩|o::os,k,p=>by cases c:p (k,o)with|false=>exact⟨[],o::os,rfl,by simp[b34,c],by simp[b34,c],λq h=>by cases h⟩|true=>
     let⟨a,b,i,f,d,g⟩:=d2y os (k+1) p;refine⟨o::a,b,by simp_all,by simp[b34,c,f],?_,λq h=>?_⟩;.simp [b34,dropWhile_cons,c,if_true,d,qR];grind
     .rcases qO.1 h with h|h;all_goals simp_all
def c7r:∀(os:O Oper)(k j:Nat)(o:Oper),os[j]?=some o->(b34 k os)[j]?=some (k+j,o)|[],k,j,o,h=>by grind|x::os,k,0,o,h=>by simp at h;subst h;rfl|x::os,k,j+1,o,h=>by have:=c7r os (k+1) j o (by simp_all);simp [b34,getElem?_cons_succ,this,show k+1+j=k+(j+1)by omega]
def e49:∀{os:O Oper}{k:Nat}{q:Nat×Oper},q∈b34 k os->∃j,q.1=k+j/\os[j]?=some q.2
 |[],k,q,h=>by cases h|x::os,k,q,h=>by
   rcases qO.1 h with h|h;.simp_all
   .let⟨j,b,c⟩:=e49 h;exact⟨j+1,by omega,by simp_all⟩
def c37:∀(l:O (Nat×Oper))(σ:U.St)(t:Nat),((b4l σ l).slot t=.unk)\/((b4l σ l).slot t=σ.slot t/\∀q∈l,q.2.dst≠some t)
 |[],σ,t=>.inr ⟨rfl,λq h=>by grind⟩|q::l,σ,t=>by
   rcases c37 l _ t with h|⟨h,b⟩;.exact .inl h
   .have e:(σ.put _ _).slot t=if q.2.dst=some t then .unk else σ.slot t:=s9 σ _ _ [] t;have h:(b4l σ (q::l)).slot t=(σ.put _ _).slot t:=h;grind
def c8z:∀(l:O (Nat×Oper))(σ:U.St)(t:Nat),(∀q∈l,q.2.dst≠some t)->(b4l σ l).slot t=σ.slot t|[],σ,t,_=>rfl|q::l,σ,t,h=>by have c:=c8z l (σ.put q.2.dst .unk) t λd a=>h d (qJ _ a);have e:=s9 σ q.2.dst .unk [] t;rw[if_neg (h q qI)]at e;exact c.trans e
def c69:∀(l:O (Nat×Oper))(σ:U.St)(id:Nat),(b4l σ l).mem id=σ.mem id|[],σ,id=>rfl|q::l,σ,id=>by have h:=c69 l (σ.put q.2.dst .unk) id;have e:(σ.put q.2.dst _).mem id=σ.mem id:=o8 σ _ .unk [] id;rw[e]at h;exact h
def e0p{C:RegC}:∀{k:Nat}{os:O Oper}{σ a:U.St}{b:O (En U)},Tr P Φ C k os σ b a->(∀e∈b,e.ws=[])->(∀id,a.mem id=σ.mem id)/\∀t,(∀o∈os,o.dst≠some t)->a.slot t=σ.slot t
 |k,[],σ,a,[],h,_=>by have h:a=σ:=h;simp_all|k,o::os,σ,a,e::b,h,c=>by
   let⟨j,g⟩:=e0p h.2 λe l=>c e (qJ _ l);refine⟨λid=>?_,λt f=>?_⟩;.rw[j id,o8,(c e qI)];rfl
   .rw[g t λo d=>f o (qJ _ d),s9];rw[h.1.1];grind|_,[],_,_,_::_,h,_=>h.elim|_,_::_,_,_,[],h,_=>h.elim
def d1u{σ σ':U.St}(h:e6v σ σ'){x:Operand}{b:Bool}(a:c0g σ x=some b):c0g σ' x=some b:=by
 unfold c0g at a⊢;split at a;.omega
 .rename_i t;split at a;.have:=(h.1 t).resolve_left (by simp_all);simp_all
  simp_all
 omega
def opM:Operand->Nat|.tmp t=>2^(2*t)|_=>0
def c5p{σ:U.St}{t:Nat}{e:Bool}(h:σ.slot t=.bool e):σ.slot t≠.unk:=by simp_all
def f6y{σ:U.St}{t:Nat}(h:σ.slot t=.undef):σ.slot t≠.unk:=by simp_all
def f5o{σ:U.St}{x:Operand}{b:Bool}(a:c0g σ x=some b)(m:Nat):(rdO x λy=>(.done y []:U.Q)).Ev σ m (m|||opM x) (.bool b) []:=by cases x with
 |tmp t=>
   simp [c0g]at a;split at a;.rename_i e d;cases a;exact⟨c5p d,rfl,d.symm,rfl⟩
   simp_all|const c=>
   cases c<;>try cases a
   exact⟨by simp[opM],rfl,rfl⟩|global g=>cases a|func f=>cases a
def f01{C:RegC}{k:O (Nat×Bool)}{σ:U.St}{q:Nat×Oper}{d t:Tmp}{x y:Operand}{e c:Bool}(o:d8e q=some (d,t,x,y))(s:okG k q.2=true)(h:c2k C k σ)(A:σ.slot t=.bool e)(D:c0g σ (if e=true then x else y)=some c):∃m,c88 P Φ C q.1 q.2 σ ⟨some d,m,.bool c,[]⟩/\Sub m (b9d C.ops q.2 C.lim):=by
 unfold d8e at o;split at o
 .rename_i J F G E z w;cases o;have u:(f8p q.2.op).Ev σ 0 (2^(2*t)|||(opM (if e=true then x else y))) (.bool c) []:=by rw[w];refine⟨c5p A,?_⟩;have:=f5o D (0|||2^(2*t));cases e;all_goals simp_all
  have b:Sub (2^(2*t)|||(opM (if e=true then x else y))) (b9d C.ops q.2 C.lim):=by
   have n:f5i q.2=([.tmp t,x,y]).filterMap λ|.tmp t=>some t|_=>none:=by unfold f5i;rw[w];rfl
   intro i a;rw[Nat.testBit_or,Nat.testBit_two_pow]at a;simp [Bool.or_eq_true,decide_eq_true_eq]at a;rcases a with a|a;.rw[<-a];exact d2z (by rw[n];simp)
   .unfold opM at a;split at a;.rename_i H l;rw[Nat.testBit_two_pow]at a;simp [decide_eq_true_eq]at a;rw[<-a];refine d2z ?_;rw[n];split at l<;>simp[l]
    .simp at a
  cases g:q.2.guard with|none=>exact⟨_,⟨z.symm,.inr (by unfold gq;simp_all)⟩,b⟩|some I=>
    unfold okG at s;rw[g]at s;let⟨B,p,j⟩:=List.any_eq_true.1 s;simp only[qB,beq_iff_eq]at j;let⟨v,f,r⟩:=h B p;rw[qC j.1]at f;refine⟨2^(2*v)|||(2^(2*t)|||(opM (if e=true then x else y))),⟨z.symm,.inr ?_⟩,?_⟩;.unfold gq;rw[g];simp [f];refine⟨c5p r,?_⟩;have:=f2q (2^(2*v)) u;simp_all
    .intro i a;rw[Nat.testBit_or,Nat.testBit_two_pow]at a;simp only[Bool.or_eq_true,decide_eq_true_eq]at a;rcases a with a|a;.rw[<-a];exact b9p g f
     .exact b i a
 simp_all
def f1b{C:RegC}{k g t:Nat}{b e:Bool}(L:c5h C.ops g=some t)(J:e≠b):∀(os:O Oper)(f:Nat)(σ:U.St),k<=f->σ.slot t=.bool e->(∀p,k<=p->p<f->∃B,c5h C.ops p=some B/\σ.slot B=.undef)->(∀j o,os[j]?=some o->C.ops[f+j]?=some o)->(∀q∈b34 f os,c2v g b k q=true)->f7n t (b34 f os)=true->∃F σ',Tr P Φ C f os σ F σ'/\(∀e∈F,e.ws=[])/\(∀(j:Nat)(e:En U)(o:Oper),F[j]?=some e->os[j]?=some o->Sub e.m (b9d C.ops o C.lim))/\σ'.slot t=.bool e
 |[],f,σ,_,G,_,_,_,_=>⟨[],σ,rfl,(λe h=>by grind),(λj e o h=>by grind),G⟩|o::os,f,σ,hk,G,Q,u,E,v=>by
   have a:=E _ qI;unfold c2v at a;have x:∃d,o.dst=some d/\d≠t:=by have:=qX.1 v _ qI;cases I:o.dst with|none=>grind|some d=>rw[I]at this;refine⟨d,rfl,λl=>?_⟩;rw[l]at this;simp at this
   let⟨d,I,T⟩:=x;cases n:o.guard with|none=>simp_all|some X=>
     let⟨p,w'⟩:=X;rw[n]at a;simp only[Bool.or_eq_true,qB,beq_iff_eq]at a;have w:∃m,(∀q,(gq C.ops o q).Ev σ 0 m .undef [])/\Sub m (b9d C.ops o C.lim):=by
      rcases a with⟨s,D⟩|⟨s,D⟩
      .have s:=qC s;subst s;refine⟨0|||2^(2*t),λq=>?_,λi z=>?_⟩
       .unfold gq;rw[n];simp [L];refine⟨c5p G,?_⟩;rw[G,D];have:(e==b)=false:=by simp_all
        simp [this];exact⟨rfl,rfl,rfl⟩
       .rw[Nat.zero_or,Nat.testBit_two_pow]at z;simp [decide_eq_true_eq]at z;rw[<-z];exact b9p n L
      .have s:=qW s;have D:p<f:=by simp_all
       let⟨B,r,A⟩:=Q p s D;refine⟨0|||2^(2*B),λq=>?_,λi z=>?_⟩;.unfold gq;rw[n];simp only[r];refine⟨f6y A,?_⟩;rw[A];exact⟨rfl,rfl,rfl⟩
       .rw[Nat.zero_or,Nat.testBit_two_pow]at z;simp [decide_eq_true_eq]at z;rw[<-z];exact b9p n r
     let⟨m,V,N⟩:=w;have y:=by simpa using u 0 o rfl
     let⟨F,σ',s,D,W,h4⟩:=f1b L J os _ (σ.app o.dst .undef []) (by omega) (by rw[s9,if_neg (by grind)];omega) (λp K Y=>by
       rcases Nat.lt_or_ge p f with M|S
       .let⟨B,r,A⟩:=Q p K M;refine⟨B,r,?_⟩;rw[s9];split;.rfl
        omega
       .have:p=f:=by omega
        subst this;refine⟨d,by unfold c5h;rw[y];omega,?_⟩;rw[s9,if_pos I]) (λj H c=>by have:=u (j+1) H (by simpa using c);grind) (λq R=>E q (qJ _ R)) (by have:=v;unfold f7n at this⊢;rw[b34,all_cons,qB]at this;exact this.2);refine⟨⟨o.dst,m,.undef,[]⟩::F,σ',⟨⟨rfl,.inl (V _)⟩,s⟩,λe l=>?_,λj e H l c=>?_,h4⟩
     .rcases qO.1 l with l|l;.rw[l]
      .exact D e l
     .cases j with|zero=>simp at l c;subst l;subst c;omega|succ j=>exact W j e H (by simpa using l) (by simpa using c)
end
section
variable {P:Program} {U:Uni} {Φ:Phi U}
def c20{o:Oper}{a:O (Nat×U.MC)}:(∀d,o.dst=some d->(c2s o a).testBit (2*d)=true)/\∀id m,lk id a=some m->(c2s o a).testBit (2*id+1)=true:=by
 have b:∀(a:O (Nat×U.MC))(m k:Nat),(m.testBit k=true\/∃w∈a,2*w.1+1=k)->(a.foldl (λm w=>m|||2^(2*w.1+1)) m).testBit k=true:=by intro a;induction a with|nil=>simp_all|cons w a i=>
    intro m k h;refine i _ k ?_;rcases h with h|⟨j,c,h⟩;.grind
    .rcases qO.1 c with e|e;.grind
     .exact .inr ⟨j,e,h⟩
 refine⟨λd g=>b a _ _ (.inl ?_),λid m f=>b a _ _ (.inr ⟨_,b1x f,rfl⟩)⟩;unfold g8r;rw[g];simp
def f0i{o:Oper}{d:Nat}(a:o.dst=some d):(g8r o).testBit (2*d)=true:=by unfold g8r;simp_all
def c55(P:Program)(Φ:Phi U)(C:RegC){R:Type}(k:Nat)(os:O Oper)(d:O (Nat×Bool))(e:O (Nat×Nat×Nat))(g f:U.St)(K:O (Nat×Nat×Nat)->U.St->A3 R)(r:R):Prop:=∃h b a c,Tr P Φ C k os f h b/\e6v a b/\c2k C d b/\K c a=some r/\f2z C d k os h e c/\∀t,(∀o∈os,o.dst≠some t)->a.slot t=g.slot t
def c55.cons{C:RegC}{R:Type}{k:Nat}{o:Oper}{os:O Oper}{b:O (Nat×Bool)}{j l:O (Nat×Nat×Nat)}{g c:U.St}{n:U.AV}{p:O (Nat×U.MC)}{K:O (Nat×Nat×Nat)->U.St->A3 R}{r:R}{e:En U}(u:c88 P Φ C k o c e)(s:f2z C b k [o] [e] j l)(h:c55 P Φ C (k+1) os b l (g.app o.dst n p) (c.app e.d e.v e.ws) K r):c55 P Φ C k (o::os) b j g c K r:=by let⟨x,f,d,a,w,y,z,q,v,B⟩:=h;refine⟨e::x,f,d,a,⟨u,w⟩,y,z,q,f2z.append rfl s v,λt m=>?_⟩;rw[B t λA i=>m A (qJ _ i),s9,if_neg (m o qI)]
def c55.append{C:RegC}{R:Type}{k:Nat}{os d:O Oper}{b:O (Nat×Bool)}{q s:O (Nat×Nat×Nat)}{j g l f:U.St}{K:O (Nat×Nat×Nat)->U.St->A3 R}{r:R}{p:O (En U)}(u:Tr P Φ C k os l p f)(z:f2z C b k os p q s)(w:∀t,(∀o∈os,o.dst≠some t)->g.slot t=j.slot t)(h:c55 P Φ C (k+os.length) d b s g f K r):c55 P Φ C k (os++d) b q j l K r:=by let⟨n,e,i,a,y,x,B,A,v,D⟩:=h;exact⟨p++n,e,i,a,u.append y,x,B,A,f2z.append u.len z v,λt c=>(D t λo m=>c o (mem_append_right _ m)).trans (w t λo m=>c o (mem_append_left _ m))⟩
def h0z{C:RegC}{c:O (Nat×Bool)}{σ:U.St}{o:Oper}(j:okG c o=true)(f:c2k C c σ){q:U.Q}{m:Nat}{v:U.AV}{p:O (Nat×U.MC)}(n:q.Ev σ 0 m v p):∃g,(gq C.ops o q).Ev σ 0 g v p/\(Sub m (b9d C.ops o C.lim)->Sub g (b9d C.ops o C.lim))/\(c=[]->g=m):=by cases b:o.guard with|none=>exact⟨m,by unfold gq;simp_all,λh=>h,λ_=>rfl⟩|some u=>
   unfold okG at j;rw[b]at j;let⟨t,l,e⟩:=List.any_eq_true.1 j;simp only[qB,beq_iff_eq]at e;let⟨r,a,k⟩:=f t l;rw[qC e.1]at a;refine⟨2^(2*r)|||m,?_,λs=>?_,λh=>by simp_all⟩;.unfold gq;rw[b];simp [a];refine⟨c5p k,?_⟩;have:=f2q (2^(2*r)) n;simp_all
   .intro i d;rw[Nat.testBit_or,Nat.testBit_two_pow]at d;simp [Bool.or_eq_true,decide_eq_true_eq]at d;rcases d with d|d;.rw[<-d];exact b9p b a
    .exact s i d
def c2k.nil{C:RegC}{σ:U.St}:c2k C [] σ:=λq h=>by grind
def f6e{C:RegC}{a:O (Nat×Bool)}{σ b:U.St}{os:O Oper}{k:Nat}(h:c2k C a σ)(n:∀q∈b34 k os,d7z C a q.2.dst=true)(l:∀t,(∀o∈os,o.dst≠some t)->b.slot t=σ.slot t):c2k C a b:=by
 intro q f;let⟨t,c,p⟩:=h q f;refine⟨t,c,?_⟩;rw[l t λo m i=>?_];.omega
 .let⟨j,g⟩:=getElem?_of_mem m;have e:=n _ (qE (c7r os k j o g));rw[i]at e;have d:=qX.1 e q f;rw[c]at d;simp at d
def f6p{C:RegC}{k:Nat}{os:O Oper}{b:O (En U)}{σ i:U.St}(f:Tr P Φ C k os σ b i)(l:∀(j:Nat)(e:En U)(o:Oper),b[j]?=some e->os[j]?=some o->e.ws=[]/\Sub e.m (b9d C.ops o C.lim)):∀(j:Nat)(e:En U)(g:Nat×Nat×Nat),b[j]?=some e->(d16 C (b34 k os))[j]?=some g->g.1=k+j/\Sub e.m g.2.1/\h1t e g.2.2:=by induction os generalizing k b σ with|nil=>intro j e g a c;simp[d16,b34]at c|cons o os s=>cases b with|nil=>exact f.elim|cons u b=>intro j e g a c;cases j with|zero=>simp[d16,b34]at a c;subst a;subst c;let⟨p,h⟩:=l 0 u o rfl rfl;refine⟨rfl,h,λd n=>?_,λv m q=>by rw[p]at q;cases q⟩;rw[f.1.1]at n;exact f0i n|succ j=>let⟨p,h,t⟩:=s f.2 (λj e o a r=>l (j+1) e o (by simpa using a) (by simpa using r)) j e g (by simpa using a) (by simpa[d16,b34]using c);exact⟨by omega,h,t⟩
def d0h:∀(a b:O Oper)(k:Nat),b34 k (a++b)=b34 k a++b34 (k+a.length) b|[],b,k=>rfl|x::a,b,k=>by simp [cons_append,b34,d0h a b _,qR,show k+1+a.length=k+(a.length+1)by omega]
def e2z:∀(os:O Oper)(k:Nat),(b34 k os).length=os.length|[],_=>rfl|_::os,k=>by simp[b34,e2z os]
def a9x{C:RegC}{R:Type}:∀(n k:Nat)(os:O Oper)(p:O (Nat×Bool))(i:O (Nat×Nat×Nat))(f:U.St)(K:O (Nat×Nat×Nat)->U.St->A3 R)(r:R),b5i P Φ C n (b34 k os) p i f K=some r->(∀(j:Nat)(o:Oper),os[j]?=some o->C.ops[k+j]?=some o)->∀u,e6v f u->c2k C p u->c55 P Φ C k os p i f u K r
 |0,_,_,_,_,_,_,_,h,_,_,_,_=>by cases h|n+1,k,[],p,i,f,K,r,h,_,u,hl,N=>by refine⟨[],u,f,i,rfl,hl,N,h,?_⟩;cases p with|nil=>exact⟨⟨[],rfl,λ_=>rfl,rfl,λj e g w=>by simp_all⟩,λ_ _=>rfl⟩|cons _ _=>exact⟨⟨rfl,λj e o w=>by simp_all⟩,λ_ _=>rfl⟩
 |n+1,k,o::os,p,i,f,K,r,h,hops,u,l,V=>by
   have M:∀(j:Nat)(Q:Oper),os[j]?=some Q->C.ops[k+1+j]?=some Q:=λj Q F=>by have:=hops (j+1) Q (by simp_all);grind
   simp only[b34,b5i]at h;cases hsp:(spG C o||C.sp.any (Nat.beq k))&&p.isEmpty with
   |true=>
     rw[hsp]at h;simp [qB,isEmpty_iff]at hsp;have hcn:=hsp.2;subst hcn;let⟨m,v,B,H,h⟩:=c8x h;have hst:c88 P Φ C k o u ⟨o.dst,m,v,B⟩:=by refine⟨rfl,?_⟩;have H:=l.ev H;cases hp:g27 o.op with|true=>rw[hp]at H;exact .inr H|false=>rw[hp]at H;exact .inl H
     cases N:!C.draw||e0c (C.bef.getD k 0) m (c2s o B) i with|false=>grind|true=>
       rw[N]at h;dsimp only at h;have hlg:f2z C [] k [o] [(⟨o.dst,m,v,B⟩:En U)] i ((k,m,c2s o B)::i):=by
        refine⟨[(k,m,c2s o B)],rfl,λhd=>?_,rfl,λj e g w Y=>?_⟩;.simp [b6z,Bool.and_true];grind
        .cases j with|zero=>simp at w Y;subst w;subst Y;exact⟨rfl,λ_ h=>h,c20.1,c20.2⟩|succ j=>simp at w
       have fin:∀E,(∀t,E.slot t=.unk\/(f.app o.dst v B).slot t=E.slot t)->(∀Z,E.mem Z=(f.app o.dst v B).mem Z)->(∀t,o.dst≠some t->E.slot t=(f.app o.dst v B).slot t)->b5i P Φ C n (b34 (k+1) os) [] ((k,m,c2s o B)::i) E K=some r->c55 P Φ C k (o::os) [] i f u K r:=by
        intro E hs1 hs2 hs3 h;have hless':e6v E (u.app o.dst v B):=by
         have h0:=l.app o.dst v B;refine⟨λt=>?_,λZ=>by rw[h0.2 Z,hs2 Z]⟩;rcases hs1 t with W|W;.exact .inl W
         .rcases h0.1 t with h2|h2;.left;rw[<-W];omega
          .right;rw[h2,W]
        let⟨D,σx',σe',hist',T,g2,g3,g4,g5,g6⟩:=a9x n (k+1) os [] _ _ K r h M _ hless' c2k.nil;refine⟨⟨o.dst,m,v,B⟩::D,σx',σe',hist',⟨hst,T⟩,g2,g3,g4,f2z.append rfl hlg g5,λt ht=>?_⟩;rw[g6 t λQ F=>ht Q (qJ _ F),hs3 t (ht o qI),s9,if_neg (ht o qI)]
       have self:=λh=>fin _ (λt=>.inr rfl) (λ_=>rfl) (λ_ _=>rfl) h;split at h
       .unfold g02 at h;split at h
        .rename_i t hdt;have put:∀b,(f.app o.dst v B).slot t=.bool b->b5i P Φ C n (b34 (k+1) os) [] ((k,m,c2s o B)::i) ((f.app o.dst v B).put (some t) (.bool b)) K=some r->c55 P Φ C k (o::os) [] i f u K r:=by
          intro b hb h;have e:∀J,((f.app o.dst v B).put (some t) (.bool b)).slot J=if some t=some J then .bool b else(f.app o.dst v B).slot J:=λJ=>s9 (f.app o.dst v B) (some t) (.bool b) [] J;refine fin ((f.app o.dst v B).put (some t) (.bool b)) (λJ=>?_) (λZ=>rfl) (λJ ht'=>?_) h
          .right;rw[e];split;.rename_i e';cases e';omega
           .rfl
          .rw[e,if_neg];rw[hdt]at ht';omega
         split at h;.rename_i e w;cases e with|true=>exact put true w (by simpa using h)|false=>exact put false w (by simpa using h)
         .exact self h
         .cases h
        .cases h
       .exact self h
   |false=>rw[hsp]at h;cases Y:okG p o with
   |true=>rw[Y]at h;let⟨m,v,B,H,h⟩:=c8x h;let⟨m',hgq,hsub,hm'⟩:=h0z Y V (l.ev H);cases p with
     |nil=>cases N:!C.draw||e0c (C.bef.getD k 0) m (c2s o B) i with|false=>grind|true=>
         rw[N]at h;have hmm:=hm' rfl;subst hmm;refine c55.cons (e:=⟨o.dst,m',v,B⟩) ⟨rfl,.inl hgq⟩ ⟨[(k,m',c2s o B)],rfl,λhd=>?_,rfl,λj e g w Y=>?_⟩ (a9x n (k+1) os [] _ _ K r h M _ (l.app _ _ _) c2k.nil);.simp [b6z,Bool.and_true];grind
         .cases j with|zero=>simp at w Y;subst w;subst Y;exact⟨rfl,λ_ h=>h,c20.1,c20.2⟩|succ j=>simp at w
     |cons c p=>cases B with|cons _ _=>grind|nil=>dsimp only at h;cases N:d7z C (c::p) o.dst&&h38 m (b9d C.ops o C.lim)with|false=>grind|true=>rw[N]at h;simp [qB]at N;refine c55.cons (e:=⟨o.dst,m',v,[]⟩) ⟨rfl,.inl hgq⟩ ⟨rfl,λj e Q w F=>?_⟩ (a9x n (k+1) os (c::p) _ _ K r h M _ (l.app _ _ _) (V.app N.1));cases j with|zero=>simp at w F;subst w;subst F;exact⟨rfl,hsub (e91 N.2)⟩|succ j=>simp at w
   |false=>rw[Y]at h;cases hgd:o.guard with|none=>simp_all|some gw=>let⟨g,A⟩:=gw;rw[hgd]at h;dsimp only at h;cases hgs:c5h C.ops g with|none=>simp_all|some t=>
         rw[hgs]at h;dsimp only at h;cases hst:f.slot t<;>rw[hst]at h<;>try(cases h)
         rename_i e;let⟨a,G,hos,htk,hdr,hin⟩:=d2y (o::os) k (c2v g A k);have htk:((k,o)::b34 (k+1) os).takeWhile (c2v g A k)=b34 k a:=htk;have hdr:((k,o)::b34 (k+1) os).dropWhile (c2v g A k)=b34 (k+a.length) G:=hdr;rw[htk,hdr]at h;cases G with|nil=>cases h|cons X G=>simp [b34]at h;cases hp:d8e (k+a.length,X)with|none=>grind|some dt=>let⟨d,J,x,y⟩:=dt;rw[hp]at h;dsimp only at h;cases N:Nat.beq J t&&okG p X&&d7z C p (some d)&&f7n t (b34 k a)&&((b34 k a).all λq=>d7z C p q.2.dst)with|false=>grind|true=>
               rw[N]at h;simp only[qB]at N;let⟨⟨⟨⟨hc1,hc2⟩,hc3⟩,hc4⟩,hc5⟩:=N;have hc1:=qC hc1;subst hc1;let⟨c,hcv,h⟩:=g7a h;have hsx:u.slot J=.bool e:=by rw[(l.1 J).resolve_left (c5p hst)];omega
               have hops0:=λj Q F=>hops j Q (by rw[hos,getElem?_append_left (qD.1 F).1];omega);have hops2:∀(j:Nat)(Q:Oper),G[j]?=some Q->C.ops[k+a.length+1+j]?=some Q:=λj Q F=>by have:=hops (a.length+1+j) Q (by rw[hos,getElem?_append_right (by omega),show a.length+1+j-a.length=j+1by omega];simpa using F);rwa[show k+(a.length+1+j)=k+a.length+1+j by omega]at this
               have hseg:∃D s,Tr P Φ C k a u D s/\(∀(j:Nat)(e:En U)(o:Oper),D[j]?=some e->a[j]?=some o->e.ws=[]/\Sub e.m (b9d C.ops o C.lim))/\(∀e∈D,e.ws=[])/\s.slot J=.bool e/\c0g s (if e=true then x else y)=some c:=by
                have run:∀(z:Operand),e=A->(if e=true then x else y)=z->b5i P Φ C n (b34 k a) ((g,A)::p) i f (λ_ E=>c0g E z)=some c->∃D s,Tr P Φ C k a u D s/\(∀(j:Nat)(e:En U)(o:Oper),D[j]?=some e->a[j]?=some o->e.ws=[]/\Sub e.m (b9d C.ops o C.lim))/\(∀e∈D,e.ws=[])/\s.slot J=.bool e/\c0g s (if e=true then x else y)=some c:=by
                 intro z hew hz hr;let⟨D,s,σe1,hist1,T,g2,g3,g4,g5,_⟩:=a9x n k a ((g,A)::p) i f _ c hr hops0 u l (λq hq=>by
                  rcases qO.1 hq with e'|e';.rw[e'];exact⟨J,hgs,by rw[hsx,hew]⟩
                  .exact V q e');let⟨tt,ht1,ht2⟩:=g3 (g,A) qI;rw[hgs]at ht1;cases ht1;refine⟨D,s,T,g5.2,λe w=>?_,by rw[hew];omega,by rw[hz];exact d1u g2 g4⟩;let⟨j,hj⟩:=getElem?_of_mem w;have hlt:j<a.length:=by rw[<-T.len];exact(qD.1 hj).1
                 exact(g5.2 j e _ hj (qG hlt)).1
                have skip:∀(z:Operand),e≠A->(if e=true then x else y)=z->c0g (b4l f (b34 k a)) z=some c->∃D s,Tr P Φ C k a u D s/\(∀(j:Nat)(e:En U)(o:Oper),D[j]?=some e->a[j]?=some o->e.ws=[]/\Sub e.m (b9d C.ops o C.lim))/\(∀e∈D,e.ws=[])/\s.slot J=.bool e/\c0g s (if e=true then x else y)=some c:=by
                 intro z hew hz hr;let⟨D,s,T,g2,g3,g4⟩:=f1b (P:=P) (Φ:=Φ) hgs hew a k u (Nat.le_refl _) hsx (λg' W h2=>by omega) hops0 hin hc4;let⟨k1,k2⟩:=e0p T g2;refine⟨D,s,T,λj e o w I=>⟨g2 e (qE w),g3 j e o w I⟩,g2,g4,?_⟩;rw[hz];refine d1u ⟨λtt=>?_,λZ=>?_⟩ hr
                 .rcases c37 (b34 k a) f tt with W|⟨W,h2⟩;.exact .inl W
                  .rw[W];rcases l.1 tt with h3|h3;.exact .inl h3
                   .right;rw[k2 tt λo I hd=>?_];.omega
                    .let⟨j,hj⟩:=getElem?_of_mem I;exact h2 _ (qE (c7r a k j o hj)) hd
                 .rw[k1 Z,c69,l.2 Z]
                cases A with
                |true=>cases e with|true=>exact run x rfl rfl (by simpa using hcv)|false=>exact skip y (by simp) rfl (by simpa using hcv)
                |false=>cases e with|true=>exact skip x (by simp) rfl (by simpa using hcv)|false=>exact run y rfl rfl (by simpa using hcv)
               let⟨D,s,T,g2,g3,g4,g5⟩:=hseg;let⟨k1,k2⟩:=e0p T g3;have hctx1:=f6e V (λq hq=>qX.1 hc5 q hq) k2;let⟨mp,hstep,hmsub⟩:=f01 (P:=P) (Φ:=Φ) hp hc2 hctx1 g4 g5;have S:=by
                refine e6v.app (σ:=b4l f (b34 k a)) (σ':=s) ⟨λtt=>?_,λZ=>?_⟩ (some d) (.bool c) []
                .rcases c37 (b34 k a) f tt with W|⟨W,h2⟩;.exact .inl W
                 .rw[W];rcases l.1 tt with h3|h3;.exact .inl h3
                  .right;rw[k2 tt λo I hd=>?_];.omega
                   .let⟨j,hj⟩:=getElem?_of_mem I;exact h2 _ (qE (c7r a k j o hj)) hd
                .rw[k1 Z,c69,l.2 Z]
               have hdst:X.dst=some d:=by
                unfold d8e at hp;split at hp;.cases hp;omega
                .cases hp
               rw[hos];have hTr2:Tr P Φ C k (a++[X]) u (D++[⟨some d,mp,.bool c,[]⟩]) (s.app (some d) (.bool c) []):=T.append ⟨hstep,rfl⟩;have hlg2:∀(j:Nat)(e:En U)(o:Oper),(D++[(⟨some d,mp,.bool c,[]⟩:En U)])[j]?=some e->(a++[X])[j]?=some o->e.ws=[]/\Sub e.m (b9d C.ops o C.lim):=by
                intro j e o w I;rcases p5 w with⟨hj,w⟩|⟨hj,w⟩
                .rcases p5 I with⟨hj',I⟩|⟨hj',I⟩;.exact g2 j e o w I
                 .have:=T.len;omega
                .rcases p5 I with⟨hj',I⟩|⟨hj',I⟩;.have:=T.len;omega
                 .have hlen:=T.len;rw[hlen]at w;cases hjj:j-a.length with|zero=>rw[hjj]at w I;simp at w I;subst w;subst I;exact⟨rfl,hmsub⟩|succ q=>rw[hjj]at w;simp at w
               rw[show a++X::G=(a++[X])++G by simp];have hkeep:∀t,(∀o∈a++[X],o.dst≠some t)->((b4l f (b34 k a)).put (some d) (.bool c)).slot t=f.slot t:=λt ht=>by
                have e:((b4l f (b34 k a)).put (some d) (.bool c)).slot t=if some d=some t then .bool c else(b4l f (b34 k a)).slot t:=s9 (b4l f (b34 k a)) (some d) (.bool c) [] t;rw[e,if_neg,c8z];.intro q hq;let⟨j,_,hj⟩:=e49 hq;exact ht q.2 (mem_append_left _ (qE hj))
                .rw[<-hdst];exact ht X (by simp)
               cases p with
               |nil=>cases hol:!C.draw||b6z C (d16 C (b34 k a++[(k+a.length,X)])) i with|false=>rw[hol]at h;cases h|true=>
                   rw[hol]at h;refine c55.append hTr2 ⟨d16 C (b34 k a++[(k+a.length,X)]),rfl,λhd=>?_,?_,λj e g w Y=>?_⟩ hkeep ?_;.rw[hd]at hol;simpa using hol
                   .have:=T.len;simp[d16,e2z,this]
                   .have he2:b34 k a++[(k+a.length,X)]=b34 k (a++[X]):=by rw[d0h];rfl
                    rw[he2]at Y;exact f6p hTr2 hlg2 j e g w Y
                   .have:=a9x n (k+a.length+1) G [] _ _ K r h hops2 _ S c2k.nil;simpa[Nat.add_assoc]using this
               |cons c0 p=>refine c55.append hTr2 ⟨rfl,hlg2⟩ hkeep ?_;have:=a9x n (k+a.length+1) G (c0::p) _ _ K r h hops2 _ S (hctx1.app hc3);simpa[Nat.add_assoc]using this
end
section
variable {P:Program} {U:Uni} {Φ:Phi U} {E:Env} {n:Nat} {ops:O Oper}
def Rel.congr{Z:Nat->Prop}{i:Nat->A5}{σ σ':U.St}{ρ:Nat->A5}{w:World}(h:Rel E Z i σ ρ w)(c:e6v σ' σ):Rel E Z i σ' ρ w:=by
 have f:cx Z i σ' w=cx Z i σ w:=by unfold cx;congr 1;funext a;unfold b7a;rw[c.2 a]
 refine⟨λt=>?_,λa=>?_,λa b g=>?_,λa d b j g e=>?_,h.zlt,h.zin,h.zout,h.ext,λa l=>⟨by have:=(h.pin a l).1;unfold b7a at this⊢;rwa[<-c.2 a],(h.pin a l).2⟩,h.tab⟩
 .rw[f];rcases c.1 t with k|k;.rw[k];trivial
  .rw[<-k];exact h.slot t
 .rw[f,<-c.2 a];exact h.mem a
 .rw[<-c.2 a]at g;exact h.own a b g
 .rw[<-c.2 a]at g;rw[<-c.2 d]at e;exact h.dist a d b j g e
def e81{Z:Nat->Prop}{j:Nat->A5}{σ:U.St}{ρ:Nat->A5}{w:World}(h:Rel E Z j σ ρ w){o:Oper}{l m:Nat}{v:U.AV}{f:O (Nat×U.MC)}(a:(f8p o.op:U.Q).Ev σ l m v f):a48 P E σ ρ w o v f:=by
 let ⟨d,k,s,q,r,g⟩:=o;cases k<;>try exact a.elim
 let ⟨e,t,c,a⟩:=u6 h a;cases e<;>try exact a.elim
 rename_i e;cases e with|true=>obtain⟨x,p,b,i,rfl,rfl⟩:=u6 h a;exact g8 h (e22 c rfl) b|false=>obtain⟨x,p,b,i,rfl,rfl⟩:=u6 h a;exact g8 h (e2v c rfl) b
def f07(T:UOK U)(H:OKΦ P Φ)(N:Plan.okTmps ops n=true)(R:Plan.okSel ops=true){C:RegC}(X:C.ops=ops){i:Nat}{o:Oper}(M:ops[i]?=some o){Z:Nat->Prop}{π:Nat->A5}{σ:U.St}{ρ:Nat->A5}{w:World}(h:Rel E Z π σ ρ w){e:En U}(x:c88 P Φ C i o σ e){Q:Exit->Act->World->Prop}{K:Act->World->Prop}{rr:A3 Nat}{A:O Deferred}(hK:∀Z' p u w',Rel E Z' p (σ.app e.d e.v e.ws) (b20 ρ e.d u) w'->K (Frd n (b20 ρ e.d u) A) w'):wpOpIn (FR rr) 9 P ops.toArray Q i K (Frd n ρ A) w:=by
 let ⟨hd,x⟩:=x;have y:∃q:U.Q,(gq C.ops o q).Ev σ 0 e.m e.v e.ws/\∀I,q.Ev σ I e.m e.v e.ws->a48 P E σ ρ w o e.v e.ws:=by
  rcases x with x|x;.exact⟨_,x,λI G=>f3z T H h G⟩
  .exact⟨_,x,λI G=>e81 h G⟩
 let ⟨q,j,l⟩:=y;unfold wpOpIn;simp [getElem?_toArray,M];have S:Region.wanted o (yielded ops.toArray (Frd n ρ A).tmps)=Region.wanted o (yl ops ρ):=by congr 1;funext g;exact e69 N ρ g
 rw[S];have z:a48 P E σ ρ w o e.v _->o.wpIn (FR rr) 9 P (Frd n ρ A) w K Q:=λhg=>by
  refine a0k.wp (K:=λv w'=>∃Z' p,Rel E Z' p (σ.app o.dst e.v e.ws) (b20 ρ o.dst v) w') ?_ ?_;.unfold a0k;rwa[c0s N R M ρ]
  .rintro v w'⟨Z',p,W⟩;rw[c6r];grind
 have m:e.v=.undef->e.ws=[]->K ((Frd n ρ A).put o.dst undef) w:=λD F=>by rw[c6r];have W:=h.val (d:=o.dst) (a:=.undef) (Ext.refl noG w) rfl;grind
 unfold gq at j;cases k:o.guard with|none=>rw[k]at j;rw[if_pos (by simp[Region.wanted,k])];exact z (l _ j)|some V=>let ⟨g,r⟩:=V;rw[k]at j;dsimp only at j;cases f:c5h _ g with|none=>rw[f]at j;exact j.elim|some t=>
     rw[f]at j;have s:(ops[g]?).bind (·.dst)=some t:=by unfold c5h at f;rw[X]at f;cases L:ops[g]?with|none=>rw[L]at f;cases f|some og=>rw[L]at f;simpa using f
     have j:=j.2;have c:=h.slot t;cases J:σ.slot t<;>rw[J]at j c<;>try exact j.elim
     .--theguard'soperationwaspassedoveritself
      let ⟨_,D,F⟩:=j;have c:ρ t=undef:=c;rw[if_neg];.exact⟨λ_ _=>trivial,m D F⟩
      .simp[Region.wanted,k,yl,s,c,undef]
     .rename_i b;have c:ρ t=.bool b:=c
      cases B:b==r with|true=>
        rw[if_pos];.exact z (l _ (by have:=j;simp [B]at this;omega))
        .have:=by simpa using B
         simp[Region.wanted,k,yl,s,c,this]|false=>
        obtain⟨_,D,F⟩:=(by have:=j;simp [B]at this;omega);rw[if_neg];.exact⟨λ_ _=>trivial,m D F⟩
        .have:b≠r:=by intro Y;rw[Y]at B;simp at B
         simp[Region.wanted,k,yl,s,c,this]
def e3c(y:UOK U)(g:OKΦ P Φ)(s:Plan.okTmps ops n=true)(z:Plan.okSel ops=true){C:RegC}(v:C.ops=ops){Q:Exit->Act->World->Prop}{rr:A3 Nat}{x:O Deferred}:∀(os:O Oper)(k:Nat)(σ σ':U.St)(q:O (En U)),Tr P Φ C k os σ q σ'->(∀(j:Nat)o,os[j]?=some o->ops[k+j]?=some o)->∀a:Nat->A5,(∀Z c ρ w,(∀t,(∀o∈ops,o.dst≠some t)->ρ t=a t)->Rel E Z c σ' ρ w->Q .normal (Frd n ρ x) w)->∀Z c ρ w,(∀t,(∀o∈ops,o.dst≠some t)->ρ t=a t)->Rel E Z c σ ρ w->wpOpsIn (FR rr) 9 P ops.toArray Q (List.range' k os.length) (Frd n ρ x) w
 |[],k,σ,σ',[],f,_,a,l,Z,c,ρ,w,m,h=>by subst f;exact l Z c ρ w m h|o::os,k,σ,σ',e::q,f,b,a,l,Z,c,ρ,w,m,h=>by
   have r:=by simpa using b 0 o rfl
   refine f07 y g s z v r h f.1 λA p u G D=>?_;exact e3c y g s z v os _ _ σ' q f.2 (λj F i=>by have:=b (j+1) F (by simpa using i);rwa[show k+(j+1)=k+1+j by omega]at this) a l A p _ G (λt d=>by rw[c9j,if_neg (by rw[f.1.1];exact d o (qE r))];exact m t d) D|[],_,_,_,_::_,h,_,_,_,_,_,_,_,_,_=>h.elim|_::_,_,_,_,[],h,_,_,_,_,_,_,_,_,_=>h.elim
def d0m(L:Nat->Bool):Nat->O (En U)->U.St->U.St|_,[],a=>a|k,e::b,a=>d0m L (k+1) b (if L k=true then a.app e.d e.v e.ws else a)
def c0k{L:Nat->Bool}:∀(a:O (En U))(k:Nat)(σ:U.St),(∀i,k<=i->L i=false)->d0m L k a σ=σ|[],_,_,_=>rfl|e::a,k,σ,h=>by simp [d0m,h k _];exact c0k a _ σ λi c=>h i (by omega)
def e2q{C:RegC}{L:Nat->Bool}:∀(os:O Oper)(k:Nat)(σ σ':U.St)(a:O (En U)),Tr P Φ C k os σ a σ'->(∀j,j<os.length->L (k+j)=true)->d0m L k a σ=σ'|[],k,σ,σ',[],b,_=>by rw[b];rfl|o::os,k,σ,σ',e::a,b,c=>by have d:=c 0 (by simp);simp [Nat.add_zero]at d;simp [d0m,d,if_true];exact e2q os _ _ σ' a b.2 λj g=>by have:=c (j+1) (by simp_all);grind|[],_,_,_,_::_,h,_=>h.elim|_::_,_,_,_,[],h,_=>h.elim
def e24{C:RegC}:∀(os:O Oper)(k:Nat)(σ σ':U.St)(a:O (En U)),Tr P Φ C k os σ a σ'->∀(j:Nat)(o:Oper)(e:En U),os[j]?=some o->a[j]?=some e->c88 P Φ C (k+j) o (d0m (λi=>decide (i<k+j)) k a σ) e
 |[],k,σ,σ',[],b,j,o,e,c,_=>by simp_all|m::os,k,σ,σ',f::a,b,0,o,e,c,d=>by simp at c d;subst c;subst d;rw[c0k _ _ _ λi p=>by simp_all];exact b.1|m::os,k,σ,σ',f::a,b,j+1,o,e,c,d=>by
   have:=e24 os _ _ σ' a b.2 j o e (by simp_all) (by simp_all);have l:decide (k<k+(j+1))=true:=by simp
   simp [d0m,l,if_true];grind|[],_,_,_,_::_,h,_,_,_,_,_=>h.elim|_::_,_,_,_,[],h,_,_,_,_,_=>h.elim
def c4f{L L':Nat->Bool}(t:Nat):∀(c:O (En U))(k:Nat)(σ σ':U.St),σ.slot t=σ'.slot t->(∀(j:Nat)(e:En U),c[j]?=some e->e.d=some t->L (k+j)=L' (k+j))->(d0m L k c σ).slot t=(d0m L' k c σ').slot t
 |[],k,σ,σ',h,_=>h|e::c,k,σ,σ',h,d=>by
   refine c4f t c _ _ _ ?_ λj l i a=>by have:=d (j+1) l (by simp_all) a;grind
   by_cases a:e.d=some t
   .have:=d 0 e rfl a;simp [Nat.add_zero]at this;rw[this];split;.rw[s9,s9,if_pos a,if_pos a]
    omega
   .have f:∀(b:Bool)(σ:U.St),(if b=true then σ.app e.d e.v e.ws else σ).slot t=σ.slot t:=λb σ=>by
     split;.rw[s9,if_neg a]
     .rfl
    rw[f,f];omega
def c7j{L L':Nat->Bool}(id:Nat):∀(a:O (En U))(k:Nat)(σ σ':U.St),σ.mem id=σ'.mem id->(∀(j:Nat)(e:En U)m,a[j]?=some e->lk id e.ws=some m->L (k+j)=L' (k+j))->(d0m L k a σ).mem id=(d0m L' k a σ').mem id
 |[],k,σ,σ',h,_=>h|e::a,k,σ,σ',h,d=>by
   refine c7j id a _ _ _ ?_ λj l m g c=>by have:=d (j+1) l m (by simp_all) c;grind
   cases c:lk id _ with
   |some m=>
     have:=d 0 e m rfl c;simp [Nat.add_zero]at this;rw[this];split;.rw[o8,o8,c]
     omega|none=>
     have f:∀(b:Bool)(σ:U.St),(if b=true then σ.app e.d e.v _ else σ).mem id=σ.mem id:=λb σ=>by
      split;.rw[o8,c]
      .rfl
     rw[f,f];omega
def d2c{L:Nat->Bool}(t:Nat):∀(a:O (En U))(k p:Nat)(σ:U.St)(e:En U),a[p]?=some e->L (k+p)=true->e.d=some t->(∀(j:Nat)(d:En U),p<j->a[j]?=some d->d.d=some t->L (k+j)=false)->(d0m L k a σ).slot t=e.v|[],k,p,σ,e,g,_,_,_=>by simp_all|l::a,k,0,σ,e,g,h,i,b=>by simp at g;subst g;simp [Nat.add_zero]at h;simp [d0m,h,if_true];rw[c4f (L':=λ_=>false) t a _ _ _ rfl λj d f c=>by have:=b (j+1) d (by omega) (by simp_all) c;grind];rw[c0k _ _ _ λ_ _=>rfl,s9,if_pos i]|l::a,k,p+1,σ,e,g,h,i,b=>by refine d2c t a _ p _ e (by simp_all) (by grind) i λj d o f c=>?_;have:=b (j+1) d (by omega) (by simpa using f) c;grind
def d1z{L:Nat->Bool}(id:Nat):∀(a:O (En U))(k p:Nat)(σ:U.St)(e:En U)(m:U.MC),a[p]?=some e->L (k+p)=true->lk id e.ws=some m->(∀(j:Nat)(d:En U)f,p<j->a[j]?=some d->lk id d.ws=some f->L (k+j)=false)->(d0m L k a σ).mem id=m|[],k,p,σ,e,m,h,_,_,_=>by simp_all|o::a,k,0,σ,e,m,h,l,i,b=>by simp at h;subst h;simp [Nat.add_zero]at l;simp [d0m,l,if_true];rw[c7j (L':=λ_=>false) id a _ _ _ rfl λj d f g c=>by have:=b (j+1) d f (by omega) (by simp_all) c;grind];rw[c0k _ _ _ λ_ _=>rfl,o8,i]|o::a,k,p+1,σ,e,m,h,l,i,b=>by refine d1z id a _ p _ e m (by simp_all) (by grind) i λj d f r g c=>?_;have:=b (j+1) d f (by omega) (by simpa using g) c;grind
def c3o(a:O Nat)(o:Oper):Nat:=o.after.toList.foldl (λs e=>bif Region.binds .any e then s|||2^e.on|||a.getD e.on 0 else s) 0
def d7e{b:O Nat}{o:Oper}{i:Nat}(h:(c3o b o).testBit i=true):∃x∈o.after,Region.binds .any x=true/\(x.on=i\/(b.getD x.on 0).testBit i=true):=by
 have d:∀(l:O _)(s:Nat),(l.foldl (λs e=>bif Region.binds .any e then s|||2^e.on|||b.getD e.on 0 else s) s).testBit i=true->s.testBit i=true\/∃x∈l,Region.binds .any x=true/\(x.on=i\/(b.getD x.on 0).testBit i=true):=by intro l;induction l with|nil=>simp_all|cons e l g=>
    intro s h;rcases g _ h with a|⟨x,f,a⟩;.dsimp only at a;cases c:Region.binds _ e with|false=>grind|true=>
       rw[c]at a;simp [cond_true,Nat.testBit_or,Nat.testBit_two_pow,Bool.or_eq_true,decide_eq_true_eq]at a;rcases a with(a|a)|a;.grind
       .exact .inr ⟨e,qI,c,.inl a⟩
       .exact .inr ⟨e,qI,c,.inr a⟩
    .exact .inr ⟨x,qJ _ f,a⟩
 rcases d _ _ h with a|⟨x,f,a⟩;.simp at a
 .exact⟨x,Array.mem_toList_iff.1 f,a⟩
def f0h:∀(os:O Oper)(a:O Nat)(j:Nat),a.length<=j->j<a.length+os.length->∃b o,os[j-a.length]?=some o/\(os.foldl (λa o=>a++[c3o a o]) a).getD j 0=c3o b o/\b.length=j/\∀q,q<j->b.getD q 0=(os.foldl (λa o=>a++[c3o a o]) a).getD q 0
 |[],a,j,p,l=>by grind|o::os,a,j,p,l=>by
   have d:∀(os:O _)(a:O Nat)(q:Nat),q<a.length->(os.foldl (λa o=>a++[c3o a o]) a).getD q 0=a.getD q 0:=by intro os;induction os with|nil=>simp_all|cons o os s=>grind
   simp only[foldl_cons];rcases Nat.lt_or_ge a.length j with g|g;.let ⟨b,e,h,k,m,f⟩:=f0h os (a++[c3o a o]) j (by grind) (by grind);refine⟨b,e,?_,k,m,f⟩;rw[show j-a.length=(j-(a.length+1))+1by omega];simpa using h
   .have c:j=a.length:=by omega
    subst c;refine⟨a,o,by simp,?_,rfl,λq r=>?_⟩;.rw[d _ _ _ (by simp)];simp[getD_eq_getElem?_getD]
    .grind
def f0e{i j:Nat}(q:j<ops.length)(h:((g6n ops).getD j 0).testBit i=true):∃o,ops[j]?=some o/\∃x∈o.after,Region.binds .any x=true/\(x.on=i\/(x.on<j/\((g6n ops).getD x.on 0).testBit i=true)):=by
 let ⟨d,o,r,l,p,k⟩:=f0h ops [] j (Nat.zero_le _) (by omega);have e:g6n ops=ops.foldl (λa o=>a++[c3o a o]) []:=e42 ops [];rw[e]at h;rw[l]at h;let ⟨x,g,f,c⟩:=d7e h;refine⟨o,by omega,x,g,f,?_⟩;rcases c with c|c;.omega
 .right;rcases Nat.lt_or_ge _ j with b|m;.refine⟨b,?_⟩;rw[e,<-k _ b];omega
  .simp_all
def c9g{L:Nat->Prop}(g:∀j o,ops[j]?=some o->L j->∀x∈o.after,Region.binds .any x=true->L x.on)(a:∀j,L j->j<ops.length):∀(j i:Nat),j<ops.length->(∀o,ops[j]?=some o->∀x∈o.after,Region.binds .any x=true->L x.on)->((g6n ops).getD j 0).testBit i=true->L i:=by intro j;induction j using Nat.strongRecOn with|_ j l=>
   intro i q r h;let ⟨o,f,x,k,p,c⟩:=f0e q h;have b:=r o f x k p;rcases c with c|⟨e,c⟩;.grind
   .exact l _ e i (a _ b) (λm d=>g _ m d b) c
def c89{C:RegC}:∀(d a:O (Nat×Nat×Nat)),b6z C d a=true->∀(j:Nat)g,d[j]?=some g->e0c (C.bef.getD g.1 0) g.2.1 g.2.2 a=true/\∀(i:Nat)c,i<j->d[i]?=some c->(C.bef.getD g.1 0).testBit c.1=true\/(g.2.2&&&(c.2.1|||c.2.2)=0/\c.2.2&&&g.2.1=0)
 |[],a,_,j,g,l=>by simp_all|e::d,a,h,0,g,l=>by simp [b6z,qB]at h;simp_all|e::d,a,h,j+1,g,l=>by
   simp [b6z,qB]at h;let ⟨f,o⟩:=c89 d _ h.2 j g (by simp_all);unfold e0c at f;simp only[all_cons,qB,Bool.or_eq_true]at f;refine⟨f.2,λi c p b=>?_⟩
   cases i with|zero=>
     simp at b;subst b;rcases f.1with k|k;.grind
     .exact .inr ⟨qC k.1,qC k.2⟩|succ i=>exact o i c (by omega) (by simpa using b)
end
section
variable {P:Program} {U:Uni} {Φ:Phi U} {E:Env} {n:Nat} {ops:O Oper}
def e2j{a b k:Nat}(h:a&&&b=0)(c:a.testBit k=true)(d:b.testBit k=true):False:=by
 have:(a&&&b).testBit k=true:=by grind
 simp_all
structure LogOK(C:RegC)(es:O (En U))(lg:O (Nat×Nat×Nat)):Prop where
 len:lg.length=es.length
 at_:∀(j:Nat)(e:En U)(g:Nat×Nat×Nat),es[j]?=some e->lg[j]?=some g->g.1=j/\Sub e.m g.2.1/\h1t e g.2.2ok:b6z C lg []=true
def LogOK.pair{C:RegC}{q:O (En U)}{p:O (Nat×Nat×Nat)}(h:LogOK C q p){i j:Nat}{c g:En U}(s:i<j)(u:q[i]?=some c)(A:q[j]?=some g):(C.bef.getD j 0).testBit i=true\/∀k,((∃m,k=2*m/\g.d=some m)\/(∃id m,k=2*id+1/\lk id g.ws=some m)->c.m.testBit k=true\/(∃m,k=2*m/\c.d=some m)\/(∃id m,k=2*id+1/\lk id c.ws=some m)->False)/\((∃m,k=2*m/\c.d=some m)\/(∃id m,k=2*id+1/\lk id c.ws=some m)->g.m.testBit k=true->False):=by
 have l:i<p.length:=by rw[h.len];grind
 have f:j<p.length:=by rw[h.len];grind
 let ⟨B,x,t⟩:=h.at_ i c _ u (qG l);let ⟨z,D,G⟩:=h.at_ j g _ A (qG f);have o:=(c89 p [] h.ok j _ (qG f)).2 i _ s (qG l);rw[B,z]at o;have a:∀{e:En U}{w k:Nat},h1t e w->((∃m,k=2*m/\e.d=some m)\/(∃id m,k=2*id+1/\lk id e.ws=some m))->w.testBit k=true:=by
  intro e w k d v;rcases v with⟨m,rfl,r⟩|⟨id,m,rfl,r⟩;.exact d.1 m r
  .exact d.2 id m r
 rcases o with o|⟨F,y⟩;.exact .inl o
 .refine .inr λk=>⟨λd b=>?_,λd b=>?_⟩
  .refine e2j F (a G d) ?_;rw[Nat.testBit_or];rcases b with b|b;.rw[x k b];rfl
   .rw[a t b];simp
  .exact e2j y (a t d) (D k b)
def f8a(hU:UOK U)(hΦ:OKΦ P Φ)(hT:Plan.okTmps ops n=true)(hS:Plan.okSel ops=true)(hA:Plan.okAfter ops=true){C:RegC}(hC:C.ops=ops)(hB:C.bef=g6n ops){b L:U.St}{g:O (En U)}{lg:O (Nat×Nat×Nat)}(ht:Tr P Φ C 0 ops b g L)(hlg:LogOK C g lg){Q:Exit->Act->World->Prop}{rr:A3 Nat}{ds:O Deferred}{ρ0:Nat->A5}(hQ:∀Z N ρ w,(∀t,(∀o∈ops,o.dst≠some t)->ρ t=ρ0 t)->Rel E Z N L ρ w->Q .normal (Frd n ρ ds) w):∀(r:Nat)(a:Array Bool)(ρ:Nat->A5)(w:World),a.size=ops.length->(∀l:O Nat,l.Nodup->(∀i∈l,a.getD i true=false)->l.length<=r)->(∀(j:Nat)(o:Oper),ops[j]?=some o->a.getD j false=true->∀x∈o.after,Region.binds .any x=true->a.getD x.on false=true)->(∀t,(∀o∈ops,o.dst≠some t)->ρ t=ρ0 t)->(∃Z N,Rel E Z N (d0m (λk=>a.getD k false) 0 g b) ρ w)->wpAnyIn (FR rr) 9 P .any ops.toArray Q r a (Frd n ρ ds) w:=by
 have hall:∀(a:Array Bool),a.size=ops.length->Region.ready .any ops.toArray a=[]->∀i,i<ops.length->a.getD i false=true:=by intro a y B i;induction i using Nat.strongRecOn with|_ i ih=>intro hi;cases hl:a.getD i false with|true=>rfl|false=>
      have hi':i<a.size:=by omega
      have hm:i∈Region.ready .any ops.toArray a:=by rw[mem_ready];refine⟨by simp[hi']at hl⊢;omega,ops[i],by simp[hi],λx hx G=>?_⟩;have f:=f2m hA hi;rw[qG hi]at f;have h2:=qX.1 f x (Array.mem_toList_iff.2 hx);simp only[G,qU,Bool.false_or,decide_eq_true_eq]at h2;exact ih x.on h2 (by omega)
      rw[B]at hm;cases hm
 have T:∀(a:Array Bool)(ρ:Nat->A5)(w:World),a.size=ops.length->Region.ready .any ops.toArray a=[]->(∀t,(∀o∈ops,o.dst≠some t)->ρ t=ρ0 t)->(∃Z N,Rel E Z N (d0m (λk=>a.getD k false) 0 g b) ρ w)->Q .normal (Frd n ρ ds) w:=by rintro a ρ w y B K⟨Z,N,hR⟩;rw[e2q ops 0 b L g ht λj c=>by simpa using hall a y B j c]at hR;exact hQ Z N ρ w K hR
 intro r;induction r with|zero=>
   intro a ρ w y I H K hJ;have B:Region.ready .any ops.toArray a=[]:=by cases B:Region.ready .any ops.toArray a with|nil=>rfl|cons x xs=>
      have hx:x∈Region.ready .any ops.toArray a:=by rw[B];simp
      have:=I [x] (by simp) (by simpa using(mem_ready.1 hx).1);simp at this
   exact⟨B,T a ρ w y B K hJ⟩|succ r ih=>
   intro a ρ w y I H K hJ;refine⟨λB=>T a ρ w y B K hJ,λi hi=>?_⟩;obtain⟨hun,o,ho,haft⟩:=mem_ready.1 hi;have A:=by simpa using ho
   have hilt:i<ops.length:=(qD.1 A).1;have hil:i<a.size:=by omega
   have X:a.getD i false=false:=by simp[hil]at hun⊢;omega
   obtain⟨Z,N,hR⟩:=hJ;have hilt':i<g.length:=by rw[ht.len];omega
   obtain⟨e,Y⟩:∃e,g[i]?=some e:=⟨g[i],qG hilt'⟩;have hex:=e24 ops 0 b L g ht i o e A Y;rw[Nat.zero_add]at hex;have S:∀j,a.getD j false=true->j<ops.length:=λj c=>by
    rcases Nat.lt_or_ge j a.size with f|f;.omega
    .simp[Array.getD,Nat.not_lt.2 f]at c
   have hpre:∀j,(C.bef.getD i 0).testBit j=true->a.getD j false=true:=λj c=>by rw[hB]at c;refine c9g H S i j hilt (λo' z=>?_) c;rw[A]at z;cases z;omega
   have F:∀j,j<ops.length->(C.bef.getD j 0).testBit i=true->a.getD j false=false:=λj c G=>by cases hl:a.getD j false with|false=>rfl|true=>rw[hB]at G;have:=c9g H S j i c (λo' z=>H j o' z hl) G;rw[X]at this;cases this
   have V:∀(j:Nat)(d:En U),g[j]?=some d->j<ops.length:=λj d h=>by rw[<-ht.len];exact(qD.1 h).1
   have W:g7t (d0m (λk=>decide (k<i)) 0 g b) (d0m (λk=>a.getD k false) 0 g b) e.m:=by
    have R:∀(k j:Nat)(d:En U),g[j]?=some d->((∃m,k=2*m/\d.d=some m)\/(∃p m,k=2*p+1/\lk p d.ws=some m))->e.m.testBit k=true->a.getD j false=decide (j<i):=by
     intro k j d c hw B;rcases Nat.lt_trichotomy j i with M|q|hgt
     .rcases hlg.pair M c Y with f|f;.rw[hpre j f];simp[M]
      .exact((f k).2 hw B).elim
     .rw[q,X];simp
     .rcases hlg.pair hgt Y c with f|f;.rw[F j (V j d c) f];simp;omega
      .exact((f k).1 hw (.inl B)).elim
    refine⟨λt G=>c4f t g 0 b b rfl λj d c D=>?_,λp G=>c7j p g 0 b b rfl λj d m c D=>?_⟩;.rw[Nat.zero_add];exact R (2*t) j d c (.inl ⟨t,rfl,D⟩) G
    .rw[Nat.zero_add];exact R (2*p+1) j d c (.inr ⟨p,m,rfl,D⟩) G
   have J:c88 P Φ C i o (d0m (λk=>a.getD k false) 0 g b) e:=by
    refine⟨hex.1,?_⟩;rcases hex.2with f|f;.exact .inl (e3u f W)
    .exact .inr (e3u f W)
   refine f07 hU hΦ hT hS hC A hR J λZ' π' u w' hR'=>?_;have q:∀k,(a.setIfInBounds i true).getD k false=if k=i then true else a.getD k false:=by
    intro k;by_cases K:k=i;.subst K;simp[hil]
    .rw[getD_set_ne false (Ne.symm K)];simp[K]
   have hww:∀(k j:Nat)(d:En U),i<j->g[j]?=some d->((∃m,k=2*m/\d.d=some m)\/(∃p m,k=2*p+1/\lk p d.ws=some m))->((∃m,k=2*m/\e.d=some m)\/(∃p m,k=2*p+1/\lk p e.ws=some m))->a.getD j false=false:=by
    intro k j d M c hw hw2;rcases hlg.pair M Y c with f|f;.exact F j (V j d c) f
    .exact((f k).1 hw (.inr hw2)).elim
   refine ih _ _ _ (by simpa using y) (λl hnd hl=>?_) (λj o' hoj hlj x hx G=>?_) (λt ht'=>by rw[c9j,if_neg (by rw[J.1];exact ht' o (qE A))];exact K t ht') ⟨Z',π',hR'.congr (by
    refine⟨λt=>.inr ?_,λp=>?_⟩
    .rw[s9];split;.rename_i D;rw[d2c t g 0 i b e Y (by rw[Nat.zero_add,q];simp) D λj d c he' s=>?_];rw[Nat.zero_add,q,if_neg (by omega)];exact hww (2*t) j d c he' (.inl ⟨t,rfl,s⟩) (.inl ⟨t,rfl,D⟩)
     .rename_i D;refine c4f t g 0 b b rfl λj d c s=>?_;rw[Nat.zero_add,q,if_neg];intro v;subst v;rw[Y]at c;cases c;exact D s
    .rw[o8];cases D:lk p e.ws with|some m=>refine(d1z p g 0 i b e m Y (by rw[Nat.zero_add,q];simp) D λj d m' c he' s=>?_).symm;rw[Nat.zero_add,q,if_neg (by omega)];exact hww (2*p+1) j d c he' (.inr ⟨p,m',rfl,s⟩) (.inr ⟨p,m,rfl,D⟩)|none=>refine(c7j p g 0 b b rfl λj d m' c s=>?_).symm;rw[Nat.zero_add,q,if_neg];intro v;subst v;rw[Y]at c;cases c;rw[D]at s;cases s)⟩
   .have f:=I (i::l) (by refine List.nodup_cons.2 ⟨λhm=>?_,hnd⟩;have:=hl i hm;simp[hil]at this) (by intro j c;cases c with|head=>omega|tail _ c=>
       have h2:=hl j c;by_cases v:j=i;.subst v;omega
       .rwa[getD_set_ne true (Ne.symm v)]at h2);simpa using f
   .rw[q]at hlj⊢;split;.rfl
    .split at hlj;.rename_i v;subst v;rw[A]at hoj;cases hoj;exact haft x hx G
     .exact H j o' hoj hlj x hx G
def e7n(M:UOK U)(s:OKΦ P Φ)(X:P.follows .mixedOrders=true)(H:Plan.okTmps ops n=true)(N:Plan.okSel ops=true)(hA:Plan.okAfter ops=true){id:Nat}{c:Bool}{R:Type}{σ:U.St}{K:U.St->A3 R}{r:R}{G:O Nat}(h:d6q P Φ G ops c σ K=some r){Q:Exit->(Nat->A5)->World->Prop}{Z:Nat->Prop}{m ρ:Nat->A5}{w:World}(hK:∀σ' Z m b w,(∀t,(∀o∈ops,o.dst≠some t)->b t=ρ t)->Rel E Z m σ' b w->K σ'=some r->Q .normal b w)(D:Rel E Z m σ ρ w):WP P n (.region id ops.toArray c) Q ρ w:=by
 let ⟨C,u⟩:∃C:RegC,C=⟨σ.nx,ops,befD ops c,c,σ.nx+16*ops.length,G⟩:=⟨_,rfl⟩;have x:b5i P Φ C (ops.length+1) (b34 0 ops) [] [] σ (λ_ σ'=>K ⟨σ'.sl,σ'.me,σ.nx+16*ops.length⟩)=some r:=by rw[u];exact h
 let ⟨S,y,σe,I,A,k,h3,T,⟨lg,h5,h6,Y,h8⟩,V⟩:=a9x _ 0 ops [] [] σ _ r x (λj o L=>by rw[u,Nat.zero_add];omega) σ ⟨λt=>.inr rfl,λ_=>rfl⟩ c2k.nil;have p:C.ops=ops:=by rw[u]
 intro J z _;have q:∀Z m f w,(∀t,(∀o∈ops,o.dst≠some t)->f t=ρ t)->Rel E Z m y f w->(∃b,Frd n f z=Frd n b z/\Q _ b w):=λZ m f w hk D=>by
  refine⟨f,rfl,hK _ Z m f w hk (Rel.congr D ⟨λt=>?_,λid=>?_⟩) T⟩;.exact k.1 t
  .exact k.2 id
 cases c with|false=>refine wpIn_region ?_;have:=e3c (rr:=J) (Q:=λe a w=>∃b,a=Frd n b z/\Q e b w) M s H N p ops 0 σ y S A (λj o L=>by rw[Nat.zero_add];omega) ρ q Z m ρ w (λ_ _=>rfl) D;rw[range_eq_range'];omega|true=>
   refine wpIn_region_any X ?_;have:=f8a (rr:=J) (Q:=λe a w=>∃b,a=Frd n b z/\Q e b w) M s H N hA p (by rw[u];rfl) A ⟨Y,λj e g he hg=>by have:=h8 j e g he hg;rwa[Nat.zero_add]at this,h6 (by rw[u])⟩ q _ (Array.replicate ops.length false) ρ _ (by simp) (λl F B=>c11 _ l F (by
      intro i W;have A:=B i W;rcases Nat.lt_or_ge i ops.length with k|k;.omega
      .simp[k]at A)) (λj o L B=>by
      rcases Nat.lt_or_ge j ops.length with k|k;.simp[k]at B
      .simp[k]at B) (λ_ _=>rfl) ⟨Z,m,by
      rw[c0k _ _ _ λi _=>by
       rcases Nat.lt_or_ge i ops.length with k|k;.simp[k]
       .simp[k]];exact (D.val (d:=none) (a:=.unk) (v:=undef) (Ext.refl noG w).drew trivial)⟩;exact this
end
section
variable {P:Program} {U:Uni} {Φ:Phi U} {E:Env} {n:Nat}
def e4q{p:EK U.C}:∀(a:O (EK U.C))(x:p.T U)(b:Keep U a),b0o a (g4k a x b)=x|[],_,_=>rfl|_::_,_,_=>rfl
def e4g{p:EK U.C}:∀(a:O (EK U.C))(x:p.T U)(b:Keep U a),a7c a (g4k a x b)=b|[],_,()=>rfl|_::_,_,_=>rfl
def a74{p:EK U.C}{a:O (EK U.C)}{x:A3 (p.T U)}{y:A3 (Keep U a)}{r:Keep U (p::a)}(h:d9f a x y=some r):x=some (b0o a r)/\y=some (a7c a r):=by
 unfold d9f at h;split at h
 .split at h;.cases h;rw[e4q,e4g];exact⟨rfl,rfl⟩
  .cases h
 .cases h
def a2k{a b:Type}{x:A3 a}{y:A3 b}{r:a×b}(h:d0u x y=some r):x=some r.1/\y=some r.2:=by
 unfold d0u at h;split at h
 .split at h;.cases h;exact⟨rfl,rfl⟩
  .cases h
 .cases h
def d1m(i:UOK U){c:U.C}{a:U.AV}{x:U.T c}(e:prj c a=some x):c1d a=true:=by cases a<;>first
  |rfl
  | (unfold prj at e;cases g:U.ag c<;>rw[g]at e<;>try(cases e)
     have f:=i.mkl c _ x e;have d:=i.kind c x;cases j:U.flds c x with|nil=>rw[j]at f;exact f.elim|cons b r=>
       rw[j]at f d;simp [all_cons,qB]at d;rcases f.1with h|⟨h,_⟩;.rw[<-h]at d;cases d.1
       .cases h)
def f00{X:Cx}{c:U.C}{a:U.AV}{l:O (U.T c)}(h:g2u c a=some l){u:A5}(b:AVR X a u):k9 (Rp c) X.G X.w u l:=by
 unfold g2u at h;split at h;.let ⟨d,e⟩:=a3i (G:=noG) (w:=X.w) h;subst d;subst e;exact b
 .cases h;exact .inl ⟨b,rfl⟩
 .cases h
def e9f{E:Env}{Z:Nat->Prop}{d:Nat->A5}{σ:U.St}{ρ:Nat->A5}{w:World}(h:Rel E Z d σ ρ w){c:U.C}{t:Nat}{l:O (U.T c)}(a:g40 σ c (σ.slot t)=some l):k9 (Rp c) (cx Z d σ w).G (cx Z d σ w).w (ρ t) l:=by
 have f:=h.slot t;unfold g40 at a;split at a
 .rename_i g e;rw[e]at f;split at a;.rename_i o m i;have b:=h.mem g;rw[i]at b;let ⟨k,j⟩:=a3i (G:=noG) (w:=w) a;subst k;subst j;rw[show ρ t=d g from f.2.1];exact b
  .cases a
 .exact f00 a f
structure KeepOK(Z:Nat->Prop)(π:Nat->A5)(σ:U.St)(ρ:Nat->A5)(w:World)(ren:O (Nat×Nat))(ids:O Nat)(σ':U.St)(π':Nat->A5):Prop where
 slot:∀X':Cx,X'.Z=Z->X'.w=w->X'.π=π'->(∀id,id∈ids\/(∃q∈ren,q.2=id)->X'.us id)->∀t,AVR X' (σ'.slot t) (ρ t)mem:∀X':Cx,X'.Z=Z->X'.w=w->X'.π=π'->(∀id,id∈ids\/(∃q∈ren,q.2=id)->X'.us id)->∀id,MR X' (σ'.mem id) (π' id)own:∀id b,MB (σ'.mem id) (π' id) b->id∈ids/\∃old,(∀q∈ren,q.1≠old)/\MB (σ.mem old) (π old) b
 dist:∀id id' b,id≠id'->MB (σ'.mem id) (π' id) b->¬MB (σ'.mem id') (π' id') b
 us:∀id∈ids,σ'.mem id≠.never
def f7a{Z:Nat->Prop}{e:Nat->A5}{σ:U.St}{ρ:Nat->A5}{w:World}(h:Rel E Z e σ ρ w){a:U.AV}{u:A5}(d:b79 (cx Z e σ w) a u):b79 (cx Z e σ w) (g3s σ a) u:=by
 cases a<;>try exact d
 rename_i g;simp [g3s];split;.rename_i c l f;have b:=h.mem g;rw[f]at b;let ⟨_,i,_⟩:=d;rw[i];exact b
 .exact d
def e8c{σ:U.St}(a:U.AV):a07 (g3s σ a)=a07 a:=by
 cases a<;>try rfl
 simp [g3s];split<;>rfl
def e5n{σ:U.St}{a:U.AV}(h:a03 a=true):a03 (g3s σ a)=true:=by
 cases a<;>try exact h
 simp [g3s];split<;>rfl
def f2k{Z:Nat->Prop}{k:Nat->A5}{σ:U.St}{ρ:Nat->A5}{w:World}(h:Rel E Z k σ ρ w){a:U.AV}{u:A5}(f:a1p (cx Z k σ w) a u):a1p (cx Z k σ w) (stF σ a) u:=by
 cases a<;>try exact f
 rename_i c l;obtain⟨d,g,e,j,i⟩:=f;refine⟨d,g,?_,?_,?_⟩;.rw[<-e,map_map];exact map_congr_left λa _=>e8c a
 .rw[qX]at j⊢;intro a f;obtain⟨b,o,rfl⟩:=List.mem_map.1 f;exact e5n (j b o)
 .clear g e j;induction l generalizing d with
  |nil=>cases d with|nil=>trivial|cons _ _=>exact i.elim
  |cons a l p=>cases d with|nil=>exact i.elim|cons s d=>let ⟨u,g,m⟩:=i.1;exact⟨⟨u,g,f7a h m⟩,p d i.2⟩
def d9u{σ:U.St}:∀fs:O U.AV,FZ σ (g0t σ fs)
 |[],d,m,h=>by cases h|a::fs,d,m,h=>by
   have b:(d,m)∈g0t σ fs->∃e c l,σ.mem d=.sl e c l/\m=.fz c l:=λh=>d9u fs d m h;cases a<;>try exact b h
   simp [g0t]at h;split at h
   .rename_i e c l f;rcases qO.1 h with h|h;.cases h;exact⟨e,c,l,f,rfl⟩
    .exact b h
   .exact b h
def b1j{i:Nat}{l:O Nat}(h:c6j (i::l)=true):i∉l/\c6j l=true:=by simp only[c6j,qB,Bool.not_eq_true']at h;refine⟨λa=>?_,h.2⟩;have:=List.any_eq_true.2 ⟨i,a,Nat.beq_refl i⟩;rw[h.1]at this;cases this
def g30{c e:O (Nat×Nat)}{σ:U.St}(h:alOK c σ e=true){t id:Nat}(f:(t,id)∈e):∃a,σ.slot t=.ref a/\(a,id)∈c:=by
 have d:=qX.1 h _ f;split at d;.rename_i a i;let ⟨q,g,b⟩:=List.any_eq_true.1 d;simp only[qB]at b;refine⟨a,i,?_⟩;rw[<-(qC b.1),<-(qC b.2)];exact g
 .cases d
def g45{l:O (Nat×U.AV)}{me:O (Nat×U.MC)}{nx t:Nat}:(∃a,(t,a)∈l/\St.slot ⟨l,me,nx⟩ t=a)\/St.slot ⟨l,me,nx⟩ t=.unk:=by simp only[St.slot];cases b:lk t l with|none=>exact .inr rfl|some a=>exact .inl ⟨a,b1x b,rfl⟩
def c7n{Z:Nat->Prop}{F:Nat->A5}{σ:U.St}{ρ:Nat->A5}{w:World}(h:Rel E Z F σ ρ w){z:O Nat}{l c:O (Nat×Nat)}{d:O Nat}{id:Nat}{B σ':U.St}{M j:Nat->A5}{G:A5}{mc:U.MC}(W:id∉d)(g1:∀i,i∉d->j i=c0j M id G i)(D:KeepOK Z F σ ρ w c d B j)(g3:∀i∈z,j i=F i/\(i∈d\/∃q∈c,q.2=i))(K:∀q∈c,q∈l\/(q.2=id/\G=F q.1))(R:∀q∈l,q∈c)(Q:∀i,σ'.mem i=if id=i then mc else B.mem i)(S:mc≠.never)(V:∀X':Cx,X'.Z=Z->X'.w=w->X'.π=j->(∀i,i∈d\/(∃q∈c,q.2=i)->X'.us i)->MR X' mc G)(A:∀b,MB mc G b->∃a,(∀q∈l,q.1≠a)/\(∃q∈c,q.1=a)/\MB (σ.mem a) (F a) b)(Y:∀t,σ'.slot t=B.slot t\/(σ'.slot t=.ref id/\ρ t=G/\G.oneCell'=true)):(∀i,i∉id::d->j i=M i)/\KeepOK Z F σ ρ w l (id::d) σ' j/\(∀i∈z,j i=F i/\(i∈id::d\/∃q∈l,q.2=i)):=by
 have r:j id=G:=by rw[g1 id W,c0j,if_pos rfl]
 have s:∀{us:Nat->Prop},(∀i,i∈id::d\/(∃q∈l,q.2=i)->us i)->∀i,i∈d\/(∃q∈c,q.2=i)->us i:=λf i p=>by
  rcases p with p|⟨q,v,g⟩;.exact f i (.inl (qJ _ p))
  .rcases K q v with m|⟨m,_⟩;.exact f i (.inr ⟨q,m,g⟩)
   .exact f i (.inl (by rw[<-g,m];exact qI))
 refine⟨λi p=>?_,⟨λX' C H I f t=>?_,λX' C H I f i=>?_,λi b o=>?_,λi1 i2 b y o k=>?_,λi p=>?_⟩,λi p=>?_⟩;.simp [qO,not_or]at p;rw[g1 i p.2,c0j,if_neg p.1]
 .rcases Y t with e|⟨e,L,J⟩;.rw[e];exact D.slot X' C H I (s f) t
  .rw[e];exact⟨f id (.inl qI),by rw[I,r];exact L,by rw[L];exact J⟩
 .rw[Q];split;.rename_i X;subst X;rw[r];exact V X' C H I (s f)
  .exact D.mem X' C H I (s f) i
 .rw[Q]at o;split at o;.rename_i X;subst X;rw[r]at o;let ⟨a,m,_,u⟩:=A b o;exact⟨qI,a,m,u⟩
  .let ⟨m,a,u,x⟩:=D.own i b o;exact⟨qJ _ m,a,λq v=>u q (R q v),x⟩
 .rw[Q]at o k;split at o;.rename_i C;subst C;rw[if_neg y]at k;rw[r]at o;let ⟨a,_,⟨q,v,g⟩,x⟩:=A b o;let ⟨_,N,u,T⟩:=D.own i2 b k;exact h.dist a _ b (λe=>u q v (by rw[g,e])) x T
  .split at k;.rename_i C H;subst H;rw[r]at k;let ⟨a,_,⟨q,v,g⟩,x⟩:=A b k;let ⟨_,N,u,T⟩:=D.own i1 b o;exact h.dist a _ b (λe=>u q v (by rw[g,e])) x T
   .exact D.dist i1 i2 b y o k
 .rw[Q];split;.exact S
  .rename_i y;rcases qO.1 p with m|m;.exact absurd m.symm y
   .exact D.us i m
 .let ⟨m,u⟩:=g3 i p;refine⟨m,?_⟩;rcases u with u|⟨q,v,g⟩;.exact .inl (qJ _ u)
  .rcases K q v with x|⟨x,_⟩;.exact .inr ⟨q,x,g⟩
   .exact .inl (by rw[<-g,x];exact qI)
def e8e(k:UOK U){X X':Cx}(i:X'.Z=X.Z)(e:X'.w=X.w):∀{cs:O U.C}{as:O U.AV}{x:CapT U cs}{vs:O A5},h1x cs as=some x->y7 (a1p X) as vs->y7 (a1p X') (f3e cs x) vs|[],[],_,[],_,_=>trivial|[],[],_,_::_,_,h=>h.elim|[],_::_,_,_,d,_=>by cases d|_::_,[],_,_,d,_=>by cases d|c::cs,a::as,x,[],_,h=>h.elim|c::cs,a::as,x,v::vs,d,h=>by cases a with
   |rp b=>
     have d:(match prj c b with|some x=>(match h1x cs as with|some B=>some _|none=>none)|none=>none)=some x:=d;split at d
     .rename_i y m;split at d;.rename_i C u;obtain rfl:=qH d;let ⟨⟨t,p,o,z,w,g,s⟩,r⟩:=h;let ⟨A,f,j⟩:=a18 s;have l:=b85 k m j;rw[f]at l;refine⟨⟨t,p,o,by rw[e];exact z,by unfold Cx.G;rw[i];exact w,by rw[e];exact g,?_⟩,e8e k i e u r⟩;unfold Cx.G;rw[i,e];exact b6w k l
      .cases d
     .cases d|_=>cases d
def e7m{X X':Cx}{d:O (Nat×Nat)}(g:∀q∈d,X'.us q.2/\X'.π q.2=X.π q.1):∀{as:O U.AV}{e:O Nat}{vs:O A5},e2k d as e=true->y7 (a1p X) as vs->y7 (a1p X') (e.map (AV.ref:Nat->U.AV)) vs|[],[],[],_,_=>trivial|.ref j::as,i::e,v::vs,h,c=>by simp only[e2k,qB]at h;let ⟨q,m,b⟩:=List.any_eq_true.1 h.1;simp only[qB]at b;have f:=qC b.2;let ⟨o,l⟩:=g q m;refine⟨⟨by rw[<-f];exact o,?_,c.1.2.2⟩,e7m g h.2 c.2⟩;rw[<-f,l,(qC b.1)];exact c.1.2.1|[],_::_,_,h,_=>by cases h|[],[],_::_,_,c=>c.elim|a::_,[],_,h,_=>by cases a<;>cases h|_::_,_::_,[],_,c=>c.elim
def b3r(hU:UOK U){Z:Nat->Prop}{π:Nat->A5}{σ:U.St}{ρ:Nat->A5}{w:World}(h:Rel E Z π σ ρ w){pins:O Nat}{al:O (Nat×Nat)}:∀(k:O (EK U.C))(o:O (Nat×Nat))(s:Keep U k)(J:Nat->A5),c64 pins al k o σ=some s->c6j (b37 k)=true->(∀q∈o,q.2∉b37 k)->(∀q∈o,J q.2=π q.1)->∃D:Nat->A5,(∀id,id∉b37 k->D id=J id)/\KeepOK Z π σ ρ w o (b37 k) (b64 al k s) D/\(∀i∈pins,D i=π i/\(i∈b37 k\/∃q∈o,q.2=i))
 |[],o,s,J,y,_,_,z=>by
   simp only[c64]at y;split at y
   .rename_i hp;simp only[qB]at hp;refine⟨J,λ_ _=>rfl,⟨λT g N e3 F t=>?_,λ_ _ _ _ _ _=>trivial,λ_ _ h=>h.elim,λ_ _ _ _ h=>h.elim,λ_ h=>by cases h⟩,λi hi=>?_⟩
    .rcases g45 (l:=al.map λa=>(a.1,(.ref a.2:U.AV))) (me:=[]) (nx:=al.foldl (λm a=>max m (a.2+1)) 0) (t:=t)with⟨a,ha,he⟩|he;.obtain⟨⟨t',id⟩,hm,e⟩:=List.mem_map.1 ha;simp only[Prod.mk.injEq]at e;obtain⟨rfl,rfl⟩:=e;obtain⟨d,R,hr⟩:=g30 hp.2 hm;have hst:=h.slot t';rw[R]at hst;show AVR T (St.slot ⟨_,_,_⟩ t') _;rw[he];refine⟨F id (.inr ⟨_,hr,rfl⟩),?_,hst.2.2⟩;rw[e3,z _ hr];exact hst.2.1
     .show AVR T (St.slot ⟨_,_,_⟩ t) _;rw[he];trivial
    .obtain⟨q,r,C⟩:=List.any_eq_true.1 (qX.1 hp.1 i hi);simp only[qB]at C;have H:=qC C.1;have L:=qC C.2;refine⟨?_,.inr ⟨q,r,L⟩⟩;have:=z q r;rwa[H,L]at this
   .cases y|.v t c::k,o,s,J,y,hn,A,z=>by
   obtain⟨H,L⟩:=a74 y;obtain⟨D,g1,I,g3⟩:=b3r hU h k o (a7c k s) J L hn A z;refine⟨D,g1,⟨λT g N e3 F t'=>?_,I.mem,I.own,I.dist,I.us⟩,g3⟩;show AVR T (St.slot ⟨(t,inj c (b0o k s))::(b64 al k (a7c k s)).sl,_,_⟩ t') _;rw[y8];split;.rename_i e;subst e;have R:=h.slot t;exact AVR.of1 (b0h (a1w hU c (b0o k s)).1 (c3i hU H (a8m (d1m hU H) R)) N (by rw[g];exactλ_ h=>h))
   .exact I.slot T g N e3 F t'|.ls t c::k,o,s,J,y,hn,A,z=>by
   obtain⟨H,L⟩:=a74 y;obtain⟨D,g1,I,g3⟩:=b3r hU h k o (a7c k s) J L hn A z;refine⟨D,g1,⟨λT g N e3 F t'=>?_,I.mem,I.own,I.dist,I.us⟩,g3⟩;show AVR T (St.slot ⟨(t,.list c (b0o k s))::(b64 al k (a7c k s)).sl,_,_⟩ t') _;rw[y8];split;.rename_i e;subst e;have:=e9f h H;show k9 (Rp c) T.G T.w _ _;unfold Cx.G;rw[g,N];exact this
   .exact I.slot T g N e3 F t'|.rp t c::k,o,s,J,y,hn,A,z=>by
   simp only[c64]at y;split at y
   .rename_i b S;obtain⟨H,L⟩:=a74 y;obtain⟨D,g1,I,g3⟩:=b3r hU h k o (a7c k s) J L hn A z;refine⟨D,g1,⟨λT g N e3 F t'=>?_,I.mem,I.own,I.dist,I.us⟩,g3⟩;show AVR T (St.slot ⟨(t,.rp (inj c (b0o k s)))::(b64 al k (a7c k s)).sl,_,_⟩ t') _;rw[y8];split;.rename_i e;subst e;have R:=h.slot t;rw[S]at R;obtain⟨ad,cs,hv,M,hg,hca,hr⟩:=R;obtain⟨u1,hu1,hr1⟩:=a18 hr;have h3:=b85 hU H hr1;rw[hu1]at h3;refine⟨ad,cs,hv,by rw[N];exact M,by unfold Cx.G;rw[g];exact hg,by rw[N];exact hca,?_⟩;unfold Cx.G;rw[g,N];exact b6w hU h3
    .exact I.slot T g N e3 F t'
   .cases y|.ow t id e c::k,o,s,J,y,hn,A,z=>by
   obtain⟨Y,hnd⟩:=b1j (i:=id) (l:=b37 k) hn;have B:∀q∈o,q.2≠id/\q.2∉b37 k:=λq r=>by have:=A q r;simp only[b37,qO,not_or]at this;exact this
   obtain⟨x,hx0⟩:∃x:O (U.T c),x=b0o k s:=⟨_,rfl⟩;obtain⟨xs,hxs0⟩:∃xs:Keep U k,xs=a7c k s:=⟨_,rfl⟩;have e0:∀i,(b64 al (.ow t id e c::k) s).mem i=if id=i then .sl e c x else(b64 al k xs).mem i:=λi=>by rw[hx0,hxs0];exact mem_cons
   have key:∀(ren':O (Nat×Nat))(hv:A5),c64 pins al k ren' σ=some xs->(∀q∈ren',q∈o\/(q.2=id/\hv=π q.1))->(∀q∈o,q∈ren')->ρ t=hv->hv.oneCell'=true->MR (cx Z π σ w) (.sl e c x) hv->(∀b,MB (.sl e c x:U.MC) hv b->∃old,(∀q∈o,q.1≠old)/\(∃q∈ren',q.1=old)/\MB (σ.mem old) (π old) b)->∃D:Nat->A5,(∀d,d∉b37 (.ow t id e c::k)->D d=J d)/\KeepOK Z π σ ρ w o (b37 (.ow t id e c::k)) (b64 al (.ow t id e c::k) s) D/\(∀i∈pins,D i=π i/\(i∈b37 (.ow t id e c::k)\/∃q∈o,q.2=i)):=by
    intro ren' hv hdk hr1 hr2 hρ hone hMR hMBs;obtain⟨D,g1,I,g3⟩:=b3r hU h k ren' xs (c0j J id hv) hdk hnd (λq r=>by
     rcases hr1 q r with H|⟨H,_⟩;.exact(B q H).2
     .rw[H];exact Y) (λq r=>by
     rcases hr1 q r with H|⟨H,L⟩;.rw[c0j,if_neg (B q H).1];exact z q H
     .rw[H,c0j,if_pos rfl];exact L);have hid:D id=hv:=by rw[g1 id Y,c0j,if_pos rfl]
    refine⟨D,λd Q=>?_,⟨λT g N e3 F t'=>?_,λT g N e3 F d=>?_,λd b M=>?_,λi1 i2 b hne M V=>?_,λd Q=>?_⟩,λi hi=>?_⟩;.simp only[b37,qO,not_or]at Q;rw[g1 d Q.2,c0j,if_neg Q.1]
    .show AVR T (St.slot ⟨(t,.ref id)::(b64 al k (a7c k s)).sl,_,_⟩ t') _;rw[y8];split;.rename_i e';subst e';refine⟨F id (.inl (by simp[b37])),?_,by rw[hρ];exact hone⟩;rw[e3,hid];exact hρ
     .rw[<-hxs0];refine I.slot T g N e3 (λd Q=>?_) t';rcases Q with Q|⟨q,r,C⟩;.exact F d (.inl (by simp[b37,Q]))
      .rcases hr1 q r with H|⟨H,_⟩;.exact F d (.inr ⟨q,H,C⟩)
       .exact F d (.inl (by simp[b37,<-C,H]))
    .rw[e0];split;.rename_i e';subst e';rw[hid];obtain⟨css,hO,hr⟩:=hMR;refine⟨css,by rw[N];exact hO,?_⟩;unfold Cx.G;rw[g,N];exact hr
     .refine I.mem T g N e3 (λd Q=>?_) d;rcases Q with Q|⟨q,r,C⟩;.exact F d (.inl (by simp[b37,Q]))
      .rcases hr1 q r with H|⟨H,_⟩;.exact F d (.inr ⟨q,H,C⟩)
       .exact F d (.inl (by simp[b37,<-C,H]))
    .rw[e0]at M;split at M;.rename_i e';subst e';rw[hid]at M;obtain⟨old,H,_,L⟩:=hMBs b M;exact⟨by simp[b37],old,H,L⟩
     .obtain⟨H,old,L,h3⟩:=I.own d b M;exact⟨by simp[b37,H],old,λq r=>L q (hr2 q r),h3⟩
    .rw[e0]at M V;split at M;.rename_i g;subst g;rw[if_neg hne]at V;rw[hid]at M;obtain⟨old,_,⟨q,r,C⟩,h3⟩:=hMBs b M;obtain⟨_,old',L,h4⟩:=I.own i2 b V;exact h.dist old old' b (λe=>L q r (by rw[C,e])) h3 h4
     .split at V;.rename_i g N;subst N;rw[hid]at V;obtain⟨old,_,⟨q,r,C⟩,h3⟩:=hMBs b V;obtain⟨_,old',L,h4⟩:=I.own i1 b M;exact h.dist old old' b (λe=>L q r (by rw[C,e])) h3 h4
      .exact I.dist i1 i2 b hne M V
    .rw[e0];simp only[b37,qO]at Q;split;.intro h;cases h
     .rename_i hne;rcases Q with H|H;.exact absurd H.symm hne
      .exact I.us d H
    .obtain⟨H,L⟩:=g3 i hi;refine⟨H,?_⟩;rcases L with L|⟨q,r,C⟩;.exact .inl (by simp[b37,L])
     .rcases hr1 q r with h3|⟨h3,_⟩;.exact .inr ⟨q,h3,C⟩
      .exact .inl (by simp[b37,<-C,h3])
   have R:=h.slot t;simp only[c64]at y;split at y
   .rename_i S;obtain⟨H,L⟩:=a74 y;rw[S]at R;have R:ρ t=.slice none 0 0:=R;have hx:x=[]:=by rw[hx0];exact(qH H).symm
    rw[<-hxs0]at L;refine key o (.slice none 0 0) L (λq r=>.inl r) (λq r=>r) R rfl ⟨[],Own.nil _ _ _ _ _,by rw[hx];trivial⟩ (λb M=>by cases M)
   .rename_i d S;rw[S]at R;split at y
    .rename_i e' c' l W K;split at y
     .rename_i hbe;have hee:=qC hbe;obtain⟨H,L⟩:=a74 y;rw[<-hxs0]at L;have H:b8i c l=some x:=by rw[hx0];exact H
      obtain⟨he,hx⟩:=a3i (G:=noG) (w:=w) H;have hm:=h.mem d;rw[K]at hm;have hm':MR (cx Z π σ w) (.sl e c x) (π d):=by rw[hee,hx];clear key H hx y e0 hx0;subst he;exact hm
      have V:∀b,MB (.sl e c x:U.MC) (π d) b->MB (σ.mem d) (π d) b:=λb M=>by rw[K];exact M
      refine key ((d,id)::o) (π d) L (λq r=>?_) (λq r=>qJ _ r) R.2.1 (by have h9:=R.2.2;rw[show ρ t=π d from R.2.1]at h9;exact h9) hm' (λb M=>⟨d,λq r g=>?_,⟨_,qI,rfl⟩,V b M⟩)
      .rcases qO.1 r with g|g;.right;rw[g];exact⟨rfl,rfl⟩
       .exact .inl g
      .have:(o.any λq=>Nat.beq q.1 d)=true:=List.any_eq_true.2 ⟨q,r,by rw[g];exact Nat.beq_refl d⟩;rw[W]at this;cases this
     .cases y
    .cases y
   .cases y|.bx t id ty c::k,o,s,J,y,hn,A,z=>by
   obtain⟨Y,hnd⟩:=b1j (i:=id) (l:=b37 k) hn;have B:∀q∈o,q.2≠id/\q.2∉b37 k:=λq r=>by have:=A q r;simp only[b37,qO,not_or]at this;exact this
   have R:=h.slot t;simp only[c64]at y;split at y
   .rename_i d S;rw[S]at R;split at y
    .rename_i ty' bb W K;split at y
     .rename_i hbe;have hee:=qC hbe;subst hee;obtain⟨hp,hdk⟩:=a74 y;have hnew:∀q∈o,q.1≠d:=λq r g=>by have:(o.any λq=>Nat.beq q.1 d)=true:=List.any_eq_true.2 ⟨q,r,by rw[g];exact Nat.beq_refl d⟩;rw[W]at this;cases this
      obtain⟨D,g1,I,g3⟩:=b3r hU h k ((d,id)::o) (a7c k s) (c0j J id (π d)) hdk hnd (λq r=>by
       rcases qO.1 r with g|g;.rw[g];exact Y
       .exact(B q g).2) (λq r=>by
       rcases qO.1 r with g|g;.rw[g];exact if_pos rfl
       .rw[c0j,if_neg (B q g).1];exact z q g);have hid:D id=π d:=by rw[g1 id Y,c0j,if_pos rfl]
      have hm:=h.mem d;rw[K]at hm;have e0:∀i,(b64 al (.bx t id ty c::k) s).mem i=if id=i then .box ty (inj c (b0o k s))else(b64 al k (a7c k s)).mem i:=λi=>mem_cons;refine⟨D,λi hi=>?_,⟨λT g N e3 F t'=>?_,λT g N e3 F i=>?_,λi b M=>?_,λi1 i2 b hne M V=>?_,λi hi=>?_⟩,λi hi=>?_⟩;.simp only[b37,qO,not_or]at hi;rw[g1 i hi.2,c0j,if_neg hi.1]
      .show AVR T (St.slot ⟨(t,.ref id)::(b64 al k (a7c k s)).sl,_,_⟩ t') _;rw[y8];split;.rename_i e';subst e';refine⟨F id (.inl (by simp[b37])),?_,R.2.2⟩;rw[e3,hid];exact R.2.1
       .refine I.slot T g N e3 (λi hi=>?_) t';rcases hi with hi|⟨q,r,C⟩;.exact F i (.inl (by simp[b37,hi]))
        .rcases qO.1 r with e'|e';.rw[e']at C;exact F i (.inl (by simp[b37,<-C]))
         .exact F i (.inr ⟨q,e',C⟩)
      .rw[e0];split;.rename_i e';subst e';rw[hid];obtain⟨blk,u,hv,hM,hr⟩:=hm;refine⟨blk,u,hv,by rw[N];exact hM,b0h (a1w hU c _).1 (c3i hU hp (f2k h hr)) N (by rw[g];exactλ_ h=>h)⟩
       .refine I.mem T g N e3 (λi hi=>?_) i;rcases hi with hi|⟨q,r,C⟩;.exact F i (.inl (by simp[b37,hi]))
        .rcases qO.1 r with e'|e';.rw[e']at C;exact F i (.inl (by simp[b37,<-C]))
         .exact F i (.inr ⟨q,e',C⟩)
      .rw[e0]at M;split at M;.rename_i e';subst e';rw[hid]at M;exact⟨by simp[b37],d,hnew,by rw[K];exact M⟩
       .obtain⟨H,old,L,h3⟩:=I.own i b M;exact⟨by simp[b37,H],old,λq r=>L q (qJ _ r),h3⟩
      .rw[e0]at M V;split at M;.rename_i g;subst g;rw[if_neg hne]at V;rw[hid]at M;obtain⟨_,old',L,h4⟩:=I.own i2 b V;exact h.dist d old' b (L _ qI) (by rw[K];exact M) h4
       .split at V;.rename_i g N;subst N;rw[hid]at V;obtain⟨_,old',L,h4⟩:=I.own i1 b M;exact h.dist d old' b (L _ qI) (by rw[K];exact V) h4
        .exact I.dist i1 i2 b hne M V
      .rw[e0];simp only[b37,qO]at hi;split;.intro h;cases h
       .rename_i hne;rcases hi with H|H;.exact absurd H.symm hne
        .exact I.us i H
      .obtain⟨H,L⟩:=g3 i hi;refine⟨H,?_⟩;rcases L with L|⟨q,r,C⟩;.exact .inl (by simp[b37,L])
       .rcases qO.1 r with e'|e';.rw[e']at C;exact .inl (by simp[b37,<-C])
        .exact .inr ⟨q,e',C⟩
     .cases y
    .cases y
   .cases y|.of t f id e c::k,o,s,J,y,hn,A,z=>by
   obtain⟨Y,hnd⟩:=b1j (i:=id) (l:=b37 k) hn;have B:∀q∈o,q.2≠id/\q.2∉b37 k:=λq r=>by have:=A q r;simp only[b37,qO,not_or]at this;exact this
   simp only[c64]at y;split at y;case h_2=>cases y
   rename_i bid S;split at y;case h_2=>cases y
   rename_i bty bc fs hbm;split at y;case h_2=>cases y
   rename_i d hra;split at y;case h_2=>cases y
   rename_i e' c' l W K;split at y;case h_2=>cases y
   rename_i hbe;have hee:=qC hbe;subst hee;obtain⟨H,L⟩:=a74 y;have hnew:∀q∈o,q.1≠d:=λq r g=>by have:(o.any λq=>Nat.beq q.1 d)=true:=List.any_eq_true.2 ⟨q,r,by rw[g];exact Nat.beq_refl d⟩;rw[W]at this;cases this
   obtain⟨D,g1,I,g3⟩:=b3r hU h k ((d,id)::o) (a7c k s) (c0j J id (π d)) L hnd (λq r=>by
    rcases qO.1 r with g|g;.rw[g];exact Y
    .exact(B q g).2) (λq r=>by
    rcases qO.1 r with g|g;.rw[g];exact if_pos rfl
    .rw[c0j,if_neg (B q g).1];exact z q g);have hm:=h.mem d;rw[K]at hm;obtain⟨hx,hx0⟩:∃x:O (U.T c),x=b0o k s:=⟨_,rfl⟩;have H:b8i c l=some hx:=by rw[hx0];exact H
   obtain⟨hcc,hxl⟩:=a3i (G:=noG) (w:=w) H;refine⟨D,c7n (mc:=.sl e c (b0o k s)) h Y g1 I g3 (λq r=>?_) (λq r=>qJ _ r) (λi=>mem_cons) (λh=>by cases h) (λT g N _ _=>?_) (λb M=>⟨d,hnew,⟨_,qI,rfl⟩,by rw[K];exact M⟩) λt=>.inl rfl⟩
   .rcases qO.1 r with g|g;.right;rw[g];exact⟨rfl,rfl⟩
    .exact .inl g
   .rw[<-hx0,hxl];clear H hxl hx0 y g1 I g3;subst hcc;obtain⟨css,hO,hr⟩:=hm;refine⟨css,by rw[N];exact hO,?_⟩;unfold Cx.G;rw[g,N];exact hr|.cl t f cs::k,o,s,J,y,hn,A,z=>by
   simp only[c64]at y;split at y;case h_2=>cases y
   rename_i f' as S;split at y;case h_2=>cases y
   rename_i hbe;have hee:=qC hbe;subst hee;obtain⟨H,L⟩:=a74 y;obtain⟨D,g1,I,g3⟩:=b3r hU h k o (a7c k s) J L hn A z;refine⟨D,g1,⟨λT g N e3 F t'=>?_,I.mem,I.own,I.dist,I.us⟩,g3⟩;show AVR T (St.slot ⟨(t,.clo f (f3e cs (b0o k s)))::(b64 al k (a7c k s)).sl,_,_⟩ t') _;rw[y8];split;.rename_i e;subst e;have R:=h.slot t;rw[S]at R;obtain⟨vs,hv,hr⟩:=R;exact⟨vs,hv,e8e hU g N H hr⟩
   .exact I.slot T g N e3 F t'|.cr t f is::k,o,s,J,y,hn,A,z=>by
   simp only[c64]at y;split at y;case h_2=>cases y
   rename_i f' as S;split at y;case h_2=>cases y
   rename_i hck;simp only[qB]at hck;have hee:=qC hck.1;subst hee;obtain⟨H,L⟩:=a74 y;obtain⟨D,g1,I,g3⟩:=b3r hU h k o (a7c k s) J L hn A z;refine⟨D,g1,⟨λT g N e3 F t'=>?_,I.mem,I.own,I.dist,I.us⟩,g3⟩;show AVR T (St.slot ⟨(t,.clo f (is.map .ref))::(b64 al k (a7c k s)).sl,_,_⟩ t') _;rw[y8];split;.rename_i e;subst e;have R:=h.slot t;rw[S]at R;obtain⟨vs,hv,hr⟩:=R;refine⟨vs,hv,e7m (λq r=>⟨F q.2 (.inr ⟨q,r,rfl⟩),?_⟩) hck.2 hr⟩;rw[e3];show D q.2=π q.1;rw[g1 q.2 (A q r),z q r]
   .exact I.slot T g N e3 F t'|.vw t id c::k,o,s,J,y,hn,A,z=>by
   simp only[c64]at y;split at y;case h_2=>cases y
   rename_i d c' lo n S;split at y;case h_2=>cases y
   rename_i hck;simp only[qB]at hck;have hcc:=c0a hck.2;subst hcc;obtain⟨q,r,C⟩:=List.any_eq_true.1 hck.1;simp only[qB]at C;have q1:=qC C.1;have q2:=qC C.2;obtain⟨H,L⟩:=a74 y;have H:(lo,n)=b0o k s:=qH H;obtain⟨D,g1,I,g3⟩:=b3r hU h k o (a7c k s) J L hn A z;refine⟨D,g1,⟨λT g N e3 F t'=>?_,I.mem,I.own,I.dist,I.us⟩,g3⟩;show AVR T (St.slot ⟨(t,.vw id c (b0o k s).1 (b0o k s).2)::(b64 al k (a7c k s)).sl,_,_⟩ t') _;rw[y8];split
   .rename_i e;subst e;have R:=h.slot t;rw[S]at R;refine⟨F id (.inr ⟨q,r,q2⟩),?_⟩;have hp:T.π id=π d:=by rw[e3];show D id=π d;rw[<-q2,g1 q.2 (A q r),z q r,q1]
    rw[<-H,hp];exact R.2
   .exact I.slot T g N e3 F t'|.mp t id::k,o,s,J,y,hn,A,z=>by
   obtain⟨Y,hnd⟩:=b1j (i:=id) (l:=b37 k) hn;have B:∀q∈o,q.2≠id/\q.2∉b37 k:=λq r=>by have:=A q r;simp only[b37,qO,not_or]at this;exact this
   have R:=h.slot t;simp only[c64]at y;split at y;case h_2=>cases y
   rename_i d S;rw[S]at R;split at y;case h_2=>cases y
   rename_i l0 W K;obtain⟨H,L⟩:=a74 y;have hnew:∀q∈o,q.1≠d:=λq r g=>by have:(o.any λq=>Nat.beq q.1 d)=true:=List.any_eq_true.2 ⟨q,r,by rw[g];exact Nat.beq_refl d⟩;rw[W]at this;cases this
   obtain⟨D,g1,I,g3⟩:=b3r hU h k ((d,id)::o) (a7c k s) (c0j J id (π d)) L hnd (λq r=>by
    rcases qO.1 r with g|g;.rw[g];exact Y
    .exact(B q g).2) (λq r=>by
    rcases qO.1 r with g|g;.rw[g];exact if_pos rfl
    .rw[c0j,if_neg (B q g).1];exact z q g);have hm:=h.mem d;rw[K]at hm;have H:l0=b0o k s:=qH H;refine⟨D,c7n (mc:=.mp (b0o k s)) h Y g1 I g3 (λq r=>?_) (λq r=>qJ _ r) (λi=>mem_cons) (λh=>by cases h) (λT g N _ _=>?_) (λb M=>⟨d,hnew,⟨_,qI,rfl⟩,by rw[K];exact M⟩) λt'=>?_⟩
   .rcases qO.1 r with g|g;.right;rw[g];exact⟨rfl,rfl⟩
    .exact .inl g
   .rw[<-H];obtain⟨b,hv,h0,M⟩:=hm;exact⟨b,hv,h0,by rw[N];exact M⟩
   .show St.slot ⟨(t,.ref id)::(b64 al k (a7c k s)).sl,_,_⟩ t'=_\/_;by_cases e':t=t';.subst e';refine .inr ⟨?_,R.2.1,(show ρ t=π d from R.2.1)▸R.2.2⟩;show St.slot ⟨(t,.ref id)::(b64 al k (a7c k s)).sl,_,_⟩ t=_;rw[y8,if_pos rfl]
    .left;rw[y8,if_neg e'];rfl|.it t id::k,o,s,J,y,hn,A,z=>by
   obtain⟨Y,hnd⟩:=b1j (i:=id) (l:=b37 k) hn;have B:∀q∈o,q.2≠id/\q.2∉b37 k:=λq r=>by have:=A q r;simp only[b37,qO,not_or]at this;exact this
   have R:=h.slot t;simp only[c64]at y;split at y;case h_2=>cases y
   rename_i d S;rw[S]at R;split at y;case h_2=>cases y
   rename_i str p W K;obtain⟨H,L⟩:=a74 y;have hnew:∀q∈o,q.1≠d:=λq r g=>by have:(o.any λq=>Nat.beq q.1 d)=true:=List.any_eq_true.2 ⟨q,r,by rw[g];exact Nat.beq_refl d⟩;rw[W]at this;cases this
   obtain⟨D,g1,I,g3⟩:=b3r hU h k ((d,id)::o) (a7c k s) (c0j J id (π d)) L hnd (λq r=>by
    rcases qO.1 r with g|g;.rw[g];exact Y
    .exact(B q g).2) (λq r=>by
    rcases qO.1 r with g|g;.rw[g];exact if_pos rfl
    .rw[c0j,if_neg (B q g).1];exact z q g);have hm:=h.mem d;rw[K]at hm;have H:(str,p)=b0o k s:=qH H;refine⟨D,c7n (mc:=.it (b0o k s).1 (b0o k s).2) h Y g1 I g3 (λq r=>?_) (λq r=>qJ _ r) (λi=>mem_cons) (λh=>by cases h) (λT g N _ _=>?_) (λb M=>⟨d,hnew,⟨_,qI,rfl⟩,by rw[K];exact M⟩) λt'=>?_⟩
   .rcases qO.1 r with g|g;.right;rw[g];exact⟨rfl,rfl⟩
    .exact .inl g
   .rw[<-H];obtain⟨b,hv,h0,M⟩:=hm;exact⟨b,hv,h0,by rw[N];exact M⟩
   .show St.slot ⟨(t,.ref id)::(b64 al k (a7c k s)).sl,_,_⟩ t'=_\/_;by_cases e':t=t';.subst e';refine .inr ⟨?_,R.2.1,(show ρ t=π d from R.2.1)▸R.2.2⟩;show St.slot ⟨(t,.ref id)::(b64 al k (a7c k s)).sl,_,_⟩ t=_;rw[y8,if_pos rfl]
    .left;rw[y8,if_neg e'];rfl|.bm t id ty c m::k,o,s,J,y,hn,A,z=>by
   obtain⟨Y,hnd⟩:=b1j (i:=id) (l:=b37 k) hn;have B:∀q∈o,q.2≠id/\q.2∉b37 k:=λq r=>by have:=A q r;simp only[b37,qO,not_or]at this;exact this
   have R:=h.slot t;simp only[c64]at y;split at y;case h_2=>cases y
   rename_i d S;rw[S]at R;split at y;case h_2=>cases y
   rename_i ty' c' fs W K;split at y;case h_2=>cases y
   rename_i hck;simp only[qB]at hck;have hee:=qC hck.1.1;subst hee;have hcc:=c0a hck.1.2;subst hcc;obtain⟨hp,hdk⟩:=a74 y;have hnew:∀q∈o,q.1≠d:=λq r g=>by have:(o.any λq=>Nat.beq q.1 d)=true:=List.any_eq_true.2 ⟨q,r,by rw[g];exact Nat.beq_refl d⟩;rw[W]at this;cases this
   obtain⟨D,g1,I,g3⟩:=b3r hU h k ((d,id)::o) (a7c k s) (c0j J id (π d)) hdk hnd (λq r=>by
    rcases qO.1 r with g|g;.rw[g];exact Y
    .exact(B q g).2) (λq r=>by
    rcases qO.1 r with g|g;.rw[g];exact if_pos rfl
    .rw[c0j,if_neg (B q g).1];exact z q g);have hm:=h.mem d;rw[K]at hm;obtain⟨blk,u,hv,hM,css,hu,hlay,hpp,hr⟩:=hm;refine⟨D,c7n (mc:=.box ty (.st c (b8h m (U.flds c (b0o k s))))) h Y g1 I g3 (λq r=>?_) (λq r=>qJ _ r) (λi=>mem_cons) (λh=>by cases h) (λT g N e3 F=>?_) (λb M=>⟨d,hnew,⟨_,qI,rfl⟩,by rw[K];exact M⟩) λt'=>?_⟩
   .rcases qO.1 r with g|g;.right;rw[g];exact⟨rfl,rfl⟩
    .exact .inl g
   .obtain⟨k1,k2,k3⟩:=d37 hU (X:=cx Z π σ w) (X':=T) hlay hpp hr hp N (by rw[g];exactλ_ h=>h) λj jd hj=>by
     have hmo:=qX.1 hck.2 _ hj;dsimp only at hmo;split at hmo;.rename_i i hi;obtain⟨q,r,C⟩:=List.any_eq_true.1 hmo;simp only[qB]at C;have q1:=qC C.1;have q2:=qC C.2;have hqr:=B q r;refine⟨i,c1y hi,F jd (.inr ⟨q,qJ _ r,q2⟩),?_⟩;rw[e3];show D jd=π i;rw[<-q2,g1 q.2 hqr.2,c0j,if_neg hqr.1,z q r,q1]
     .cases hmo
    exact⟨blk,u,hv,by rw[N];exact hM,css,hu,k1,k2,k3⟩
   .show St.slot ⟨(t,.ref id)::(b64 al k (a7c k s)).sl,_,_⟩ t'=_\/_;rw[y8];split;.rename_i e';subst e';right;refine⟨?_,R.2.1,by have h9:=R.2.2;rw[show ρ t=π d from R.2.1]at h9;exact h9⟩;show St.slot ⟨(t,.ref id)::(b64 al k (a7c k s)).sl,_,_⟩ t=_;rw[y8,if_pos rfl]
    .exact .inl rfl
def c6b{c d:Type}{o:A3 c}{f:c->A3 d}{b:d}(h:bindO o f=some b):∃a,o=some a/\f a=some b:=by cases o with|none=>cases h|some a=>exact⟨a,rfl,h⟩
def a9i{σ:U.St}:∀d:O (EK U.C),FZ σ (e6x σ d)
 |[],b,m,h=>by cases h|.ls t _::d,b,m,h=>by
   simp [e6x]at h;split at h
   .split at h
    .rename_i e c l f;rcases qO.1 h with h|h;.obtain⟨rfl,rfl⟩:=h;exact⟨_,_,_,f,rfl⟩
     .exact a9i d b m h
    .exact a9i d b m h
   .exact a9i d b m h|.v _ _::d,b,m,h=>a9i d b m h|.ow _ _ _ _::d,b,m,h=>a9i d b m h|.bx t _ _ _::d,b,m,h=>by
   simp [e6x]at h;split at h
   .split at h
    .rcases qK.1 h with h|h;.exact d9u _ b m h
     .exact a9i d b m h
    .exact a9i d b m h
   .exact a9i d b m h|.rp _ _::d,b,m,h=>a9i d b m h|.of _ _ _ _ _::d,b,m,h=>a9i d b m h|.bm _ _ _ _ _::d,b,m,h=>a9i d b m h|.it _ _::d,b,m,h=>a9i d b m h|.mp _ _::d,b,m,h=>a9i d b m h|.vw _ _ _::d,b,m,h=>a9i d b m h|.cr _ _ _::d,b,m,h=>a9i d b m h|.cl _ _ _::d,b,m,h=>a9i d b m h
def c46(F:UOK U){Z:Nat->Prop}{y:Nat->A5}{σ:U.St}{ρ:Nat->A5}{w:World}(h:Rel E Z y σ ρ w){d:O Nat}(k:∀i,E.pin i↔i∈d){x:O (Nat×Nat)}{l:O (EK U.C)}{s:Keep U l}(m:d6e d x l σ=some s):∃u e,(∀b,Z b->u b)/\Rel E u e (b64 x l s) ρ w:=by
 unfold d6e at m;split at m
 .rename_i B;have j:FZ σ _:=a9i l;have p:=c8m h j;have h:=h.freeze j;let ⟨e,G,g,A⟩:=b3r F h l [] s y m B (λq c=>by cases c) (λq c=>by cases c);refine⟨_,e,p.z,λt=>g.slot _ rfl rfl rfl (λf a=>?_) t,λf=>g.mem _ rfl rfl rfl (λf a=>by
   rcases a with a|⟨q,c,_⟩;.exact g.us f a
   .cases c) f,λf b D=>?_,g.dist,h.zlt,h.zin,h.zout,h.ext,λi v=>?_,h.tab⟩
  .rcases a with a|⟨q,c,_⟩;.exact g.us f a
   .cases c
  .let ⟨_,o,_,z⟩:=g.own f b D;exact h.own o b z
  .let ⟨C,r⟩:=A i ((k i).1 v);refine⟨?_,C.trans (h.pin i v).2⟩;rcases r with r|⟨q,c,_⟩;.exact g.us i r
   .cases c
 .cases m
def g1w{X X':Cx}(d:X'.Z=X.Z)(c:X'.w=X.w):∀{as:O U.AV}{vs:O A5},as.all isRp=true->y7 (a1p X) as vs->y7 (a1p X') as vs
 |[],[],_,_=>trivial|[],_::_,_,h=>h.elim|_::_,[],_,h=>h.elim|a::as,u::vs,b,h=>by
   simp only[all_cons,qB]at b;refine⟨?_,g1w d c b.2 h.2⟩;cases a<;>try(cases (b.1))
   exact g91 c d h.1
def d0g{X X':Cx}{a:U.AV}{v:A5}(e:e09 a=true)(h:AVR X a v)(g:X'.Z=X.Z)(c:X'.w=X.w):AVR X' a v:=by
 have i:X'.G=X.G:=by unfold Cx.G;rw[g]
 cases a<;>first
  |exact h|(cases e;done)|(simp [AVR,a1p,b79,i,c]at h⊢;exact h)|(let ⟨j,b,d⟩:=h;exact⟨j,b,g1w g c e d⟩)
  | (rename_i f a;cases a<;>try(cases e)
     let ⟨r,b,k,l,d⟩:=h;exact⟨r,b,k,l,by rw[i,c];exact d⟩)
def f9d{σ:U.St}:∀(a:O Nat)(t:Nat),lk t (f3c σ a)=if t∈a/\e09 (σ.slot t)=true then some (σ.slot t)else none
 |[],t=>by simp[f3c,lk]|i::a,t=>by
   have e:=f9d (σ:=σ) a t;simp [f3c];split;.rename_i c;show(bif Nat.beq i t then some _ else lk t _)=_;cases d:Nat.beq i t with|true=>have:=qC d;subst this;simp[c]|false=>rw[e];simp[Ne.symm (Nat.ne_of_beq_eq_false d)]
   .rename_i c;rw[e];by_cases b:t=i;.subst b;simp[c]
    .simp[b]
def d7u(σ:U.St)(t:Nat):σ.slot t=(lk t σ.sl).getD .unk:=by unfold St.slot;cases lk t _<;>rfl
def d7b{σ:U.St}{a:O Nat}{c:O (Nat×Nat)}{b:O (EK U.C)}{s:Keep U b}(t:Nat):(e5d σ a c b s).slot t=if t∈a/\e09 (σ.slot t)=true then σ.slot t else(b64 c b s).slot t:=by
 have e:(e5d σ a c b s).slot t=(lk t (f3c σ a++(b64 c b s).sl)).getD _:=d7u _ _;rw[e,c7z,f9d,d7u (b64 c b s)];by_cases d:t∈a/\e09 (σ.slot t)=true;.rw[if_pos d,if_pos d];rfl
 .rw[if_neg d,if_neg d]
def c7g{Z:Nat->Prop}{a:Nat->A5}{σ:U.St}{ρ:Nat->A5}{w:World}{b:O Nat}{d:O (Nat×Nat)}{c:O (EK U.C)}{s:Keep U c}(h:Rel E Z a (b64 d c s) ρ w)(f:∀t,t∈b->e09 (σ.slot t)=true->AVR (cx Z a (b64 d c s) w) (σ.slot t) (ρ t)):Rel E Z a (e5d σ b d c s) ρ w:=by
 refine⟨λt=>?_,h.mem,h.own,h.dist,h.zlt,h.zin,h.zout,h.ext,h.pin,h.tab⟩;rw[d7b];split;.rename_i e;exact f t e.1 e.2
 .exact h.slot t
def Env.re(E:Env)(Z:Nat->Prop)(w:World):Env:=⟨w,λb=>(E.G b\/E.w0.heap.size<=b)/\¬Z b,Z,E.pin,E.π0⟩
def Rel.re(g:UOK U){Z:Nat->Prop}{e:Nat->A5}{σ:U.St}{ρ:Nat->A5}{w:World}(h:Rel E Z e σ ρ w):Rel (E.re Z w) Z e σ ρ w:=⟨h.slot,h.mem,λi b a=>by let ⟨c,j,f⟩:=h.own i b a;exact⟨c,j,.inl ⟨f,c⟩⟩,h.dist,h.zlt,λb a=>.inl a,λb a=>a,Ext.refl _ _,h.pin,h.tabw g,λb a=>⟨Nat.lt_of_lt_of_le (h.tab.2 b a).1 h.ext.size,λd=>d.1.elim (h.tab.2 b a).2 λd=>by have:=(h.tab.2 b a).1;omega⟩⟩
def Rel.un{Z j:Nat->Prop}{k g:Nat->A5}{σ i:U.St}{ρ f:Nat->A5}{w l:World}(c:Rel E j g i f l)(h:Rel (E.re j l) Z k σ ρ w):Rel E Z k σ ρ w:=by
 refine⟨h.slot,h.mem,λp b e=>?_,h.dist,h.zlt,λb e=>?_,λb e=>h.zout b (c.zout b e),d19 c.ext h.ext λx m=>m.1,h.pin,c.tab⟩
 .let ⟨a,o,d⟩:=h.own p b e;refine⟨a,o,?_⟩;rcases d with d|d;.exact d.1
  .exact .inr (Nat.le_trans c.ext.size d)
 .rcases h.zin b e with a|a|a;.exact c.zin b a
  .exact .inr a.1
  .exact .inr (.inr (Nat.le_trans c.ext.size a))
def a3z(n:Nat):Code->Bool|.region _ e _=>Plan.okTmps e.toList n&&Plan.okSel e.toList&&Plan.okAfter e.toList|.seq a b=>a3z n a&&a3z n b|.cond c a b=>Operand.below n c&&(a3z n a&&a3z n b)|.block _ a=>a3z n a|.loop a=>a3z n a|_=>true
structure KOK{R:Type}(E:Env)(T:Nat->Prop)(ρ0:Nat->A5)(k:Kont U R)(r:R)(Q:Exit->(Nat->A5)->World->Prop):Prop where
 norm:∀σ Z π ρ w,(∀t,T t->ρ t=ρ0 t)->Rel E Z π σ ρ w->k.norm σ=some r->Q .normal ρ w
 exit:∀i σ Z π ρ w,(∀t,T t->ρ t=ρ0 t)->Rel E Z π σ ρ w->k.exit i σ=some r->Q (.exit i) ρ w
 ret:∀σ Z π ρ w,(∀t,T t->ρ t=ρ0 t)->Rel E Z π σ ρ w->k.ret σ=some r->Q .ret ρ w
def c9h{a b:O Nat}(h:f1m a b=true){x:Nat}(e:x∈a):x∉b:=λd=>by have c:=qX.1 h x e;have:=List.any_eq_true.2 ⟨x,d,Nat.beq_refl x⟩;rw[this]at c;cases c
def f4h{Z:Nat->Prop}{g:Nat->A5}{σ:U.St}{ρ:Nat->A5}{w:World}(h:Rel E Z g σ ρ w){c:Operand}{e:Bool}(a:c0g σ c=some e):ev ρ c=.bool e:=by
 unfold c0g at a;split at a;.cases a;rfl
 .rename_i t;have f:=h.slot t;split at a;.rename_i b d;cases a;rw[d]at f;exact f
  .cases a
 .cases a
def d3k{σ:U.St}:∀ts:O Nat,FZ σ (g6s σ ts)
 |[],b,m,h=>by cases h|t::ts,b,m,h=>by
   simp [g6s]at h;split at h
   .split at h
    .rename_i e c l d;rcases qO.1 h with h|h;.obtain⟨rfl,rfl⟩:=h;exact⟨_,_,_,d,rfl⟩
     .exact d3k ts b m h
    .exact d3k ts b m h
   .exact d3k ts b m h
def f5q{Z:Nat->Prop}{a:Nat->A5}{σ:U.St}{ρ:Nat->A5}{w:World}(h:Rel E Z a σ ρ w)(ts:O Nat):∃Z',Rel E Z' a (frzA σ ts) ρ w:=by cases ts with|nil=>exact⟨Z,h⟩|cons t ts=>exact⟨_,h.freeze (d3k _)⟩
def a6v(L:UOK U)(F:OKΦ P Φ)(W:P.follows .mixedOrders=true){H:O Nat}{R:Type}:∀(c:Code)(I:Ann U.C)(σ:U.St)(k:Kont U R)(r:R),a3z n c=true->den P Φ H c I σ k=some r->∀(E:Env),(∀i,E.pin i↔i∈H)->∀(T:Nat->Prop)(u:Nat->A5)Q,(∀t,T t->t∉b5k c)->KOK E T u k r Q->∀Z q ρ w,(∀t,T t->ρ t=u t)->Rel E Z q σ ρ w->WP P n c Q ρ w
 |.skip,I,σ,k,r,_,h,E,_,T,u,Q,_,A,Z,q,ρ,w,v,D=>WP.skip (A.norm σ Z q ρ w v D h)|.region Y ops draw,I,σ,k,r,G,h,E,_,T,u,Q,N,A,Z,q,ρ,w,v,D=>by
   simp only[a3z,qB]at G;obtain⟨Z,D⟩:=f5q D I.fz;have:=e7n (Q:=Q) (id:=Y) L F W G.1.1 G.1.2 G.2 h (λm Z q K w hk' f x=>A.norm m Z q K w (λt y=>by
    rw[hk' t λo ho hd=>N t y ?_];.exact v t y
    .exact List.mem_filterMap.2 ⟨o,ho,hd⟩) f x) D;rwa[Array.toArray_toList]at this|.seq a b,I,σ,k,r,G,h,E,p,T,u,Q,N,A,Z,q,ρ,w,v,D=>by
   simp only[a3z,qB]at G;have hTa:=λt y h=>N t y (mem_append_left _ h);have hTb:=λt y h=>N t y (mem_append_right _ h);refine WP.seq ?_;have B:∀an1 an2,den P Φ H a an1 σ ⟨λσ=>den P Φ H b an2 σ k,k.exit,k.ret⟩=some r->WP P n a (d78 (WP P n b Q) Q) ρ w:=by intro an1 an2 h;exact a6v L F W a an1 σ _ r G.1 h E p T u (d78 (WP P n b Q) Q) hTa ⟨λm Z q ρ w d f x=>a6v L F W b an2 m k r G.2 x E p T u Q hTb A Z q ρ w d f,λi m Z q ρ w d f x=>A.exit i m Z q ρ w d f x,λm Z q ρ w d f x=>A.ret m Z q ρ w d f x⟩ Z q ρ w v D
   cases I with|j al es a' b'=>refine a6v L F W a a' σ _ r G.1 h E p T u (d78 (WP P n b Q) Q) hTa ⟨λm Z q ρ w d f x=>?_,λi m Z q ρ w d f x=>A.exit i m Z q ρ w d f x,λm Z q ρ w d f x=>A.ret m Z q ρ w d f x⟩ Z q ρ w v D;obtain⟨s,hs,x⟩:=c6b x;obtain⟨Z2,C,_,hR2⟩:=c46 L f p hs;exact a6v L F W b b' _ k r G.2 x E p T u Q hTb A Z2 C ρ w d hR2|n=>exact B _ _ h|s a' b'=>exact B _ _ h|l inv al es a'=>exact B _ _ h|g sp=>exact B _ _ h|z _ _=>exact B _ _ h
 |.cond c a b,I,σ,k,r,G,h,E,p,T,u,Q,N,A,Z,q,ρ,w,v,D=>by
   simp only[a3z,qB]at G;simp only[den]at h;split at h
   .rename_i e he;refine WP.cond (t:=e) G.1 (f4h D he) (λy=>?_) (λhf=>?_);.rw[if_pos y]at h;exact a6v L F W a _ σ k r G.2.1 h E p T u Q (λt y h=>N t y (mem_append_left _ h)) A Z q ρ w v D
    .rw[if_neg (by rw[hf];simp)]at h;exact a6v L F W b _ σ k r G.2.2 h E p T u Q (λt y h=>N t y (mem_append_right _ h)) A Z q ρ w v D
   .cases h|.block Y a,I,σ,k,r,G,h,E,p,T,u,Q,N,A,Z,q,ρ,w,v,D=>by refine WP.block ?_;refine a6v L F W a I σ _ r G h E p T u (e48 Y Q) N ⟨λm Z q ρ w d f x=>A.norm m Z q ρ w d f x,λi m Z q ρ w d f x=>?_,λm Z q ρ w d f x=>A.ret m Z q ρ w d f x⟩ Z q ρ w v D;show(if i=Y then Q .normal ρ w else Q (.exit i) ρ w);have x:(match Nat.beq i Y with|true=>k.norm m|false=>k.exit i m)=some r:=x;cases X:Nat.beq i Y with|true=>rw[X]at x;rw[if_pos (qC X)];exact A.norm m Z q ρ w d f x|false=>rw[X]at x;rw[if_neg (Nat.ne_of_beq_eq_false X)];exact A.exit i m Z q ρ w d f x
 |.loop a,I,σ,k,r,G,h,E,p,T,u,Q,N,A,Z,q,ρ,w,v,D=>by cases I with
   |l inv al es I=>
     simp only[den]at h;split at h;.rename_i hap;obtain⟨s,hs,h⟩:=c6b h;obtain⟨Z2,C,hz2,hR2⟩:=c46 L D p hs;have hle2:Cx.Le (⟨Z,C,b7a (b64 al es s),w⟩:Cx) (cx Z2 C (b64 al es s) w):=⟨hz2,Ext.refl _ _,λ_ h=>⟨h,rfl⟩⟩;refine WP.loop (λkk ρ w=>∃s Z q,(∀t,T t->ρ t=u t)/\Rel E Z q (e5d σ inv al es s) ρ w/\d9 kk _ s=some r) FU ⟨s,Z2,C,v,(c7g hR2 λt y hp=>AVR.le hle2 (d0g (X':=⟨Z,C,b7a (b64 al es s),w⟩) hp (D.slot t) rfl rfl)),h⟩ (λρ w⟨_,_,_,_,_,h⟩=>by cases h) ?_;rintro kk ρ1 w1⟨s,Z1,π1,V,M,h⟩;refine a6v L F W a I _ _ r G (show den P Φ H a I _ _=some r from h) (E.re Z1 w1) p (λt=>T t\/t∈inv) ρ1 (d78 _ Q) (λt y=>y.elim (N t) (λhi=>c9h hap hi)) ⟨λm Z' C K w' d f x=>?_,λi m Z' C K w' d f x=>A.exit i m Z' C K w' (λt y=>(d t (.inl y)).trans (V t y)) (Rel.un M f) x,λm Z' C K w' d f x=>A.ret m Z' C K w' (λt y=>(d t (.inl y)).trans (V t y)) (Rel.un M f) x⟩ Z1 π1 ρ1 w1 (λ_ _=>rfl) (M.re L);obtain⟨s',hs',x⟩:=c6b x;obtain⟨Z3,S,hz3,hR4⟩:=c46 L f p hs';have hle:Cx.Le (⟨Z1,S,b7a _,w1⟩:Cx) (cx Z3 S (b64 al es s') w'):=⟨λb X=>hz3 b (f.zout b X),f.ext.mono λb X hz=>X.2 hz,λ_ h=>⟨h,rfl⟩⟩;refine⟨s',Z3,S,λt y=>(d t (.inl y)).trans (V t y),Rel.un M (c7g hR4 λt y hp=>?_),x⟩;have h1:=M.slot t;rw[d7b,if_pos ⟨y,hp⟩]at h1;rw[d t (.inr y)];exact AVR.le hle (d0g hp h1 rfl rfl)
     .cases h|n=>cases h|s _ _=>cases h|j _ _ _ _=>cases h|g _=>cases h|z _ _=>cases h
 |.exit Y,I,σ,k,r,_,h,E,_,T,u,Q,_,A,Z,q,ρ,w,v,D=>WP.exit (A.exit Y σ Z q ρ w v D h)|.ret,I,σ,k,r,_,h,E,_,T,u,Q,_,A,Z,q,ρ,w,v,D=>WP.ret (A.ret σ Z q ρ w v D h)|.rangeFunc _ _ _ _,_,_,_,_,_,h,_,_,_,_,_,_,_,_,_,_,_,_,_=>by cases h|.scope _,_,_,_,_,_,h,_,_,_,_,_,_,_,_,_,_,_,_,_=>by cases h|.label _,_,_,_,_,_,h,_,_,_,_,_,_,_,_,_,_,_,_,_=>by cases h|.goto _,_,_,_,_,_,h,_,_,_,_,_,_,_,_,_,_,_,_,_=>by cases h|.refuse _,_,_,_,_,_,h,_,_,_,_,_,_,_,_,_,_,_,_,_=>by cases h
end
end Go.SX
