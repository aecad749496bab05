/- Texts of the proof, joined. -/
import Derived.Test.YtlnlddeandmbhaaGreatDoorP2
import Derived.Laws.MakeOwn
import Derived.MapKept
set_option linter.defProp false
set_option linter.unusedVariables false
set_option linter.unusedSimpArgs false
set_option maxRecDepth 100000
open List
namespace Go.SX
open Go Go.PL
section
variable {P:Program} {U:Uni}
variable {E:Env} {Z:Nat -> Prop} {π:Nat -> A5} {σ:U.St} {ρ:Nat -> A5} {w:World}
variable {m0 m:Nat} {a b v:U.AV} {ws:O (Nat×U.MC)} {fr:Nat}
def b2b{α:Type}{t:Nat}{l r:O (Nat×α)}{a:α}(h:(t,a)∈l\/(t,a)∈r):∃m,lk t (l++r)=some m:=by
 have key:∀{l:O _}{a:α},(t,a)∈l->∃m,lk t l=some m:=by intro l;induction l with|nil=>simp_all|cons q l ih=>intro a h;show∃m,(bif Nat.beq q.1 t then some q.2else lk t l)=some m;cases hk:Nat.beq q.1 t with|true=>simp_all|false=>
      rcases qO.1 h with e|e;.rw[<-e]at hk;simp_all
      grind
 exact key (qK.2 h)
def e23:∀(rs:O (RK U.C))(us:O A5),(c59 rs us).length<=rs.length|[],us=>by cases us<;>simp[c59]|r::rs,[]=>by cases r<;>simp[c59]|r::rs,u::us=>by have:=e23 rs us;cases r<;>simp[c59]<;>omega
def b40{b:Nat}:∀(ps:O (PK U.C))(k:Nat)(is:O (O Nat))(os:Outs U ps),∀q∈b70 b k ps is os,q.2≠.never
 |[],k,is,os,q,h=>by cases is<;>cases h|p::ps,k,[],os,q,h=>by cases p<;>cases h|p::ps,k,i::is,os,q,h=>by
   cases p with|v c=>exact b40 ps _ is os q h|ls c=>exact b40 ps _ is os q h|rp t c=>exact b40 ps _ is os q h|ow e c=>exact b40 ps _ is os q h|cl f cs=>exact b40 ps _ is os q h|bn f c=>exact b40 ps _ is os q h|km f t=>exact b40 ps _ is os q h|vl f t c=>exact b40 ps _ is os q h|io t c=>
     let⟨o,os⟩:=os;rcases qK.1 h with h|h;.grind
     .exact b40 ps _ is os q h|so e c=>
     let⟨o,os⟩:=os;rcases qK.1 h with h|h;.grind
     .exact b40 ps _ is os q h|im t c m=>
     let⟨o,os⟩:=os;rcases qK.1 h with h|h;.grind
     .exact b40 ps _ is os q h|po b0 f e c=>
     let⟨o,os⟩:=os;rcases qO.1 h with h|h;.simp_all
     .exact b40 ps _ is os q h
def e78{b:Nat}{Xc:Cx}{all:O A5}:∀(ps:O (PK U.C))(k:Nat)(us:O A5)(xs:Args U ps)(is:O (O Nat))(os:Outs U ps),ARs σ π Xc all ps us xs is->∀(j:Nat)(p:PK U.C),ps[j]?=some p->d4j p=true->∃m,(b+k+j,m)∈b70 b k ps is os
 |[],k,us,xs,is,os,_,j,p,h,_=>by grind|_::_,k,[],xs,is,os,h,_,_,_,_=>by cases is<;>exact h.elim|_::_,k,_::_,(x,xs),[],os,h,_,_,_,_=>h.elim|p0::ps,k,u::us,(x,xs),i::is,os,h,j,p,hp,hn=>by
   have go:∀os',0<j->∃m,(b+k+j,m)∈b70 b _ ps is os':=λos' hj=>by obtain⟨m,hm⟩:=e78 ps _ us xs is os' h.2 (j-1) p (by rw[show j=(j-1)+1by omega]at hp;simp_all) hn;exact⟨m,by rwa[show b+(k+1)+(j-1)=b+k+j by omega]at hm⟩
   have pos:d4j p0=false->0<j:=λhn0=>by
    rcases Nat.eq_zero_or_pos j with e|e;.simp_all
    omega
   cases p0 with|v c=>exact go os (pos rfl)|ls c=>exact go os (pos rfl)|rp t c=>exact go os (pos rfl)|ow e c=>exact go os (pos rfl)|cl f cs=>exact go os (pos rfl)|bn f c=>exact go os (pos rfl)|km f t=>exact go os (pos rfl)|vl f t c=>exact go os (pos rfl)|io t c=>let⟨o,os⟩:=os;let⟨m,hm⟩:=go os (pos rfl);exact⟨m,mem_append_right _ hm⟩|so e c=>let⟨o,os⟩:=os;let⟨m,hm⟩:=go os (pos rfl);exact⟨m,mem_append_right _ hm⟩|im t c m0=>let⟨o,os⟩:=os;let⟨m,hm⟩:=go os (pos rfl);exact⟨m,mem_append_right _ hm⟩|po b0 f e c=>
     let⟨o,os⟩:=os;rcases Nat.eq_zero_or_pos j with e|e;.subst e;exact⟨_,qI⟩
     .let⟨m,hm⟩:=go os e;exact⟨m,qJ _ hm⟩
def f4g{fr n j:Nat}{ps:O (PK U.C)}{p:PK U.C}(hp:ps[j]?=some p)(hn:d4j p=true):fr+n+j∈h1m fr n ps:=by unfold h1m;rw[mem_filterMap];refine⟨j,List.mem_range.2 (qD.1 hp).1,?_⟩;simp_all
def d6f(hU:UOK U)(h:Rel E Z π σ ρ w){s:Sig U}{fz:O (Nat×U.MC)}{us:O A5}{xs:Args U s.ps}{is:O (O Nat)}{r:Ress U s.rs×Outs U s.ps}{u:A5}{w':World}{d:A3 Tmp}(hfz:s.nf=true->FZ σ fz)(hfn:∀q∈fz,σ.mem q.1≠.never)(hin:∀i∈is,∀id∈i,σ.mem id≠.never)(hA:∀Z',(∀b,Z b->Z' b)->(∀b,b50 σ π fz b->Z' b)->ARs σ π (cz Z' w) us s.ps us xs is)(hap:c6k (is++[fz.map (·.1)])=true)(hmi:b4o s.ps=true)(hnev:∀i∈(d23 fr s.rs r.1).2.map (·.1),σ.mem i=.never)(hnev2:∀i∈h1m fr s.rs.length s.ps,σ.mem i=.never)(hP:Post s (λb=>Z b\/b50 σ π fz b) (λb=>∃i∈is,∃id∈i,MB (σ.mem id) (π id) b) w us r u w'):∃Z' π',Rel E Z' π' (σ.app d (h1s (d23 fr s.rs r.1).1) ((d23 fr s.rs r.1).2++(b70 (fr+s.rs.length) 0 s.ps is r.2++(((e07 s.ps is).map λid=>(id,.dead))++match s.nf with|true=>fz|false=>[])))) (b20 ρ d u) w':=by
 let⟨Z1,us1,ua,hu,hz1,hz2,hE,hlu,hsame,hRR,hOR,hown,hdist⟩:=hP;subst hu;unfold b4o at hmi;simp [qB]at hmi;have hARs:=hA (λb=>Z b\/b50 σ π fz b) (λb h=>.inl h) (λb h=>.inr h);let⟨bb,hbb⟩:∃bb:Nat,bb=fr+s.rs.length:=⟨_,rfl⟩;rw[<-hbb];let⟨ws,hws⟩:∃ws:O (Nat×U.MC),ws=(d23 fr s.rs r.1).2++(b70 bb 0 s.ps is r.2++(((e07 s.ps is).map λid=>(id,.dead))++match s.nf with|true=>fz|false=>[])):=⟨_,rfl⟩;rw[<-hws];let⟨Z2,hZ2⟩:∃Z2:Nat->Prop,Z2=(match s.nf with|true=>Z1|false=>Z):=⟨_,rfl⟩;let⟨isp,hisp⟩:∃isp:Nat->Bool,isp=λk=>(match s.ps[k]?with|some p=>d4j p|none=>false):=⟨_,rfl⟩;let⟨π2,hπ2⟩:∃π2:Nat->A5,π2=λid=>if fr<=id/\id-fr<(c59 s.rs us1).length then(c59 s.rs us1).getD (id-fr) undef else if bb<=id/\isp (id-bb)=true then ua.getD (id-bb) undef else π id:=⟨_,rfl⟩;have hZ2le:∀b,Z2 b->Z1 b:=by
  intro b hb;rw[hZ2]at hb;cases hnf:s.nf<;>rw[hnf]at hb;.exact hz1 b (.inl hb)
  omega
 have hZle:∀b,Z b->Z2 b:=by
  intro b hb;rw[hZ2];cases hnf:s.nf;.omega
  .exact hz1 b (.inl hb)
 let⟨X2,hX2⟩:∃X2:Cx,X2=cx Z2 π2 (σ.app d (h1s (d23 fr s.rs r.1).1) ws) w':=⟨_,rfl⟩;have hL:g20 s.nf (cz Z1 w') X2:=by rw[hX2];refine⟨rfl,λhnf b hb=>?_⟩;rw[hZ2,hnf];exact hb
 have hL':g20 s.nf (czO Z1 s.ps ua w') X2:=hL;have hnfr:s.nf=false->s.rs.all e8u=true:=λe=>by unfold Sig.nf at e;simp only[Bool.not_eq_eq_eq_not,Bool.not_false,qB]at e;exact e.1
 have hnfp:s.nf=false->s.ps.all d0c=true:=λe=>by unfold Sig.nf at e;simp only[Bool.not_eq_eq_eq_not,Bool.not_false,qB]at e;exact e.2
 let⟨hm1,hm2,hm3⟩:=d22 hU hL s.rs fr r.1 us1 hnfr hRR;have hlenms:=y7.length hm1;have hrl:=e23 s.rs us1;have hfresh:∀p,p<(c59 s.rs us1).length->σ.mem (fr+p)=.never:=by
  intro p hp;have hp':p<(d23 fr s.rs r.1).2.length:=by omega
  have h1:=hm2 p _ (qG hp');have:=hnev ((d23 fr s.rs r.1).2[p]).1 (mem_map_of_mem (qV hp'));rw[h1]at this;omega
 have hfresh2:∀k,isp k=true->σ.mem (bb+k)=.never:=by
  intro k hk;rw[hisp]at hk;dsimp only at hk;split at hk;.rename_i p hp;rw[hbb];exact hnev2 _ (f4g hp hk)
  .cases hk
 have hπu:∀id,σ.mem id≠.never->π2 id=π id:=by
  intro id hid;rw[hπ2];show(if _ then _ else if _ then _ else _)=_;rw[if_neg,if_neg];.rintro⟨h1,h2⟩;apply hid;have:=hfresh2 (id-bb) h2;rwa[show bb+(id-bb)=id by omega]at this
  .rintro⟨h1,h2⟩;apply hid;have:=hfresh (id-fr) h2;rwa[show fr+(id-fr)=id by omega]at this
 have hπn:∀(p:Nat)(u:A5),(c59 s.rs us1)[p]?=some u->π2 (fr+p)=u:=by intro p u hu;have hp:=(qD.1 hu).1;rw[hπ2];show(if _ then _ else _)=_;rw[if_pos ⟨by omega,by omega⟩];simp[hu]
 have hπo:∀k,isp k=true->π2 (bb+k)=ua.getD k undef:=by intro k hk;rw[hπ2];show(if _ then _ else if _ then _ else _)=_;rw[if_neg (by omega),if_pos ⟨by omega,by rw[show bb+k-bb=k by omega];omega⟩,show bb+k-bb=k by omega]
 have hwsnn:∀q∈ws,q.2≠.never:=by
  intro q hq;rw[hws]at hq;rcases qK.1 hq with hm|hm;.let⟨p,hp⟩:=getElem?_of_mem hm;let⟨u,hu,hu2,hu3⟩:=hm1.get hp;omega
  .rcases qK.1 hm with hm|hm;.exact b40 _ _ _ _ q hm
   .rcases qK.1 hm with hm|hm;.let⟨i,hi,he⟩:=List.mem_map.1 hm;rw[<-he];intro h;cases h
    .cases hnf:s.nf with|true=>rw[hnf]at hm;let⟨e,c,l,_,e2⟩:=hfz hnf q.1 q.2 hm;rw[e2];intro h;cases h|false=>rw[hnf]at hm;cases hm
 have ho1:=e83 hU hL' s.ps 0 xs is r.2 us ua hnfp hARs hOR hsame (λi u hu=>by simpa using hu) (by
  intro t c m q hm hq;let⟨b,f,e,c',hx⟩:=c5s s.ps 0 hmi.1 t c m q hm hq;have hk:isp q.2=true:=by rw[hisp];dsimp only;rw[hx];rfl
  rw[hX2];refine⟨?_,hπo q.2 hk⟩;show(σ.app d _ ws).mem (bb+q.2)≠.never;rw[o8];let⟨m',hm'⟩:=e78 (b:=bb) s.ps 0 us xs is r.2 hARs q.2 _ hx rfl;have:∃mc,lk (bb+q.2) ws=some mc:=by rw[hws];exact b2b (.inr (mem_append_left _ (by omega)))
  let⟨mc,hl⟩:=this;rw[hl];exact hwsnn _ (b1x hl));have hcls:∀id mc,lk id ws=some mc->(∃(p:Nat)(u:A5),(c59 s.rs us1)[p]?=some u/\id=fr+p/\MR X2 mc u/\π2 id=u)\/(∃(p:Nat)(u:A5),(ioB s.ps ua)[p]?=some u/\(b70 bb 0 s.ps is r.2)[p]?=some (id,mc)/\MR X2 mc u/\π2 id=u)\/mc=.dead\/(s.nf=true/\(id,mc)∈fz):=by
  intro id mc hl;have hmem:=b1x hl;rw[hws]at hmem;rcases qK.1 hmem with hm|hm;.let⟨p,hp⟩:=getElem?_of_mem hm;let⟨u,hu,hu2,hu3⟩:=hm1.get hp;have e:=hm2 p _ hp;exact .inl ⟨p,u,hu,e,hu2,by rw[show id=fr+p from e];exact hπn p u hu⟩
  .rcases qK.1 hm with hm|hm
   .let⟨p,hp⟩:=getElem?_of_mem hm;let⟨u,hu,h1,h2,h3⟩:=ho1.get hp;refine .inr (.inl ⟨p,u,hu,hp,h1,?_⟩);rcases h3 with⟨e1,e2⟩|⟨j,e1,e2,p0,e3,e4⟩;.rw[hπu id e2];exact e1.symm
    .have e1:id=bb+j:=by omega
     rw[e1,hπo j (by rw[hisp];dsimp only;rw[e3];omega)];have e2:=by simpa using e2
     simp[e2]
   .rcases qK.1 hm with hm|hm;.let⟨i,hi,he⟩:=List.mem_map.1 hm;cases he;exact .inr (.inr (.inl rfl))
    .cases hnf:s.nf with|true=>rw[hnf]at hm;exact .inr (.inr (.inr ⟨rfl,hm⟩))|false=>rw[hnf]at hm;cases hm
 have hisw:∀i∈is,∀id∈i,∃mc,lk id ws=some mc:=by
  intro i hi id hid;rw[hws];rcases b0c s.ps 0 xs is r.2 us hARs i hi id hid with⟨mc,h1⟩|h1;.exact b2b (.inr (mem_append_left _ h1))
  .exact b2b (.inr (mem_append_right _ (mem_append_left _ (List.mem_map.2 ⟨id,h1,rfl⟩))))
 have hown2:∀v∈c59 s.rs us1++ioB s.ps ua,∀b,hdV v=some b->¬Z2 b/\b<w'.heap.size/\(w.heap.size<=b\/∃id0 m0,lk id0 ws=some m0/\MB (σ.mem id0) (π id0) b):=by
  intro v hv b hb;let⟨h1,h2,h3⟩:=hown v hv b hb;refine⟨λhz=>h1 (hZ2le b hz),h2,?_⟩;rcases h3 with⟨i,hi,id,hid,hb'⟩|h3;.let⟨mc,hl⟩:=hisw i hi id hid;exact .inr ⟨id,mc,hl,hb'⟩
  omega
 have hGZ:∀b,(∃i∈is,∃id∈i,MB (σ.mem id) (π id) b)->¬(Z b\/b50 σ π fz b):=by
  rintro b⟨i,hi,id,hid,hb⟩(hz|⟨q,hq,hbq⟩);.exact(h.own id b hb).1 hz
  .let⟨j,hj⟩:=getElem?_of_mem hi;have hne:=by
    refine b9f hap j is.length i (fz.map (·.1)) id q.1 ?_ ?_ hid (mem_map_of_mem hq) ?_;.rw[getElem?_append_left (qD.1 hj).1];omega
    .simp
    .exact Nat.ne_of_lt (qD.1 hj).1
   exact h.dist id q.1 b hne hb hbq
 refine⟨Z2,π2,?_⟩;refine h.next (hE.mono λb⟨i,hi,id,hid,hb⟩=>?_) hZle (λb hb=>?_) (λid hu=>hπu id hu) (λid mc hl=>?_) (λid mc hl=>?_) (λid mc b hl hb=>?_) (λid id' mc mc' b hne hl hl' hb hb'=>?_) ?_;.let⟨mc,hl⟩:=hisw i hi id hid;exact⟨id,mc,hl,hb⟩
 .rw[hZ2]at hb;cases hnf:s.nf with|false=>rw[hnf]at hb;exact .inl hb|true=>
    rw[hnf]at hb;rcases hz2 b hb with(hz|⟨q,hq,hbq⟩)|⟨i,hi,id,hid,hb'⟩|hz;.exact .inl hz
    .refine .inr (.inr ?_);have:∃mc,lk q.1 ws=some mc:=by rw[hws,hnf];exact b2b (.inr (mem_append_right _ (mem_append_right _ hq)))
     let⟨mc,hl⟩:=this;exact⟨q.1,mc,hl,hbq⟩
    .let⟨mc,hl⟩:=hisw i hi id hid;exact .inr (.inr ⟨id,mc,hl,hb'⟩)
    omega
 .exact hwsnn _ (b1x hl)
 .rw[<-hX2];rcases hcls id mc hl with⟨p,u,hp,he,hmr,hpu⟩|⟨p,u,hp,_,hmr,hpu⟩|rfl|⟨hnf,hq⟩;.rw[hpu];omega
  .rw[hpu];omega
  .trivial
  .obtain⟨e,c,l,hmem,rfl⟩:=hfz hnf _ _ hq;rw[hπu id (by rw[hmem];intro h;cases h)];have hm:=h.mem id;rw[hmem]at hm;have h1:=c0x (Z':=λb=>Z b\/b50 σ π fz b) hm (λb h=>.inl h) λb hb=>.inr ⟨_,hq,by rw[hmem];let⟨css,hO,_⟩:=hm;let⟨ad,cap,hv,_⟩:=hO.shape;exact(a95 hv).1 hb⟩;have h2:=k9.ext h1 (hE.mono (λb hb=>hGZ b hb));rw[hX2];refine k9.weaken h2 λb _ hn hz=>hn ?_;rw[hZ2,hnf];exact hz1 b hz
 .rcases hcls id mc hl with⟨p,u,hp,he,hmr,hpu⟩|⟨p,u,hp,_,hmr,hpu⟩|rfl|⟨hnf,hq⟩;.rw[hpu]at hb;exact hown2 u (mem_append_left _ (qE hp)) b (f7v hb)
  .rw[hpu]at hb;exact hown2 u (mem_append_right _ (qE hp)) b (f7v hb)
  .exact hb.elim
  .obtain⟨e,c,l,_,rfl⟩:=hfz hnf _ _ hq;exact hb.elim
 .have pos:∀id mc,lk id ws=some mc->MB mc (π2 id) b->∃(k:Nat)(u:A5),(c59 s.rs us1++ioB s.ps ua)[k]?=some u/\hdV u=some b/\((k<(c59 s.rs us1).length/\id=fr+k)\/((c59 s.rs us1).length<=k/\∃mc',(b70 bb 0 s.ps is r.2)[k-(c59 s.rs us1).length]?=some (id,mc'))):=by
   intro id mc hl hb;rcases hcls id mc hl with⟨p,u,hp,he,hmr,hpu⟩|⟨p,u,hp,hpo,hmr,hpu⟩|rfl|⟨hnf,hq⟩;.rw[hpu]at hb;have hlt:=(qD.1 hp).1;exact⟨p,u,by rw[getElem?_append_left hlt];omega,f7v hb,.inl ⟨hlt,he⟩⟩
   .rw[hpu]at hb;exact⟨(c59 s.rs us1).length+p,u,by rw[getElem?_append_right (by omega)];simpa using hp,f7v hb,.inr ⟨by omega,mc,by simpa using hpo⟩⟩
   .exact hb.elim
   .obtain⟨e,c,l,_,rfl⟩:=hfz hnf _ _ hq;exact hb.elim
  let⟨k,u,hk,hku,hkc⟩:=pos id mc hl hb;let⟨k',u',hk',hku',hkc'⟩:=pos id' mc' hl' hb';have hkk:k≠k':=by
   intro e;subst e;rcases hkc with⟨h1,h2⟩|⟨h1,mc1,h2⟩<;>rcases hkc' with⟨h3,h4⟩|⟨h3,mc2,h4⟩;.omega
   .omega
   .omega
   .rw[h2]at h4;cases h4;omega
  exact hdist k k' u u' b hkk hk hk' hku hku'
 .rw[<-hX2];refine f6m (hm3 λp u hp=>⟨?_,?_⟩)
  .rw[hX2];show(σ.app d _ ws).mem (fr+p)≠.never;rw[o8];have hp':p<(d23 fr s.rs r.1).2.length:=by rw[hlenms];exact(qD.1 hp).1
   have h1:=hm2 p _ (qG hp');have:∃mc,lk (fr+p) ws=some mc:=by rw[hws,<-h1];exact b2b (.inl (qV hp'))
   let⟨mc,hl⟩:=this;rw[hl];exact hwsnn _ (b1x hl)
  .rw[hX2];exact hπn p u hp
def f0v{X:Cx}{all:O A5}:∀{ps:O (PK U.C)}{us:O A5}{xs:Args U ps}{is:O (O Nat)},ARs σ π X all ps us xs is->us.length=ps.length|[],[],_,[],_=>rfl|_::_,_::_,(_,_),_::_,h=>by simp[f0v h.2]|[],[],_,_::_,h=>h.elim|[],_::_,_,is,h=>by cases is<;>exact h.elim|_::_,[],_,is,h=>by cases is<;>exact h.elim|_::_,_::_,(_,_),[],h=>h.elim
def c5z:∀(rs:O (RK U.C))(x:Ress U rs)(k:Ress U rs->U.Q),(g6e rs x k).Ev σ m0 m v ws->(k x).Ev σ m0 m v ws
 |[],_,k,h=>h|.v c::rs,(x,xs),k,h=>c5z rs xs _ h|.ls c::rs,(x,xs),k,h=>c5z rs xs _ h|.ow e c::rs,(x,xs),k,h=>c5z rs xs _ h|.bo t c::rs,(x,xs),k,h=>by
   rcases h with⟨e,h⟩|⟨y,e,h⟩;.subst e;exact c5z rs xs _ h
   .subst e;exact c5z rs xs _ h
def f7p(hU:UOK U)(h:Rel E Z π σ ρ w){d:A3 Tmp}{ty:TypeId}{ps:String}{af:Array Edge}{g:A3 (Nat×Bool)}{x:Operand}{args:Array Operand}{tys:Array TypeId}{f g0:FuncId}{t0:TypeId}{co:A3 U.C}{as cs:O U.AV}{vs fs:O A5}(hx:ev ρ x=.func (.func f) fs.toArray vs.toArray)(hcs:y7 (a1p (cx Z π σ w)) cs vs)(has:y7 (AVR (cx Z π σ w)) as (fs++args.toList.map (ev ρ)))(hk:b9c P f g0 t0)(hev:(h3i fr g0 t0 co (as++cs)).Ev σ m0 m v ws):a48 P E σ ρ w ⟨d,.call ⟨.value x,args,tys⟩,ty,ps,af,g⟩ v ws:=by
 have hall:=a87 has (hcs.mono λ_ _ hh=>AVR.of1 hh);have e:(fs.toArray++args.map (ev ρ)++vs.toArray)=(fs++args.toList.map (ev ρ)++vs).toArray:=by simp_all
 generalize as++cs=A at hall hev;generalize hB:fs++args.toList.map _++vs=B at hall e;have run:∀(u:A5),B=[u]->(execOp (ev ρ) ⟨d,.call ⟨.value x,args,tys⟩,ty,ps,af,g⟩).run P w=.ok (.enter f #[u]) w:=by intro u hb;rw[hb]at e;simp [execOp,resolve,Deferred.ofValue,hx,Sem.run_bind];simp[invoke,(hk.1 _ w),e]
 have fin:∀(u:A5)(a:U.AV),B=[u]->u.cells.toList=[u]->(∀X',(cx Z π σ w).Le X'->a1p X' a u)->σ.mem fr=.never->a48 P E σ ρ w ⟨d,.call ⟨.value x,args,tys⟩,ty,ps,af,g⟩ (.clo g0 [.ref fr]) [(fr,.box t0 a)]:=by
  intro u a hb hcell hu hfr;unfold a48 a0k;rw[run u hb];refine(hk.2 u hcell w).mono λe' w'⟨he,hw⟩=>⟨_,he,Z,c0j π fr (.pointer (some ⟨w.heap.size,0,none⟩)),?_⟩;subst hw;have hM:=by have:=Mb.alloc w t0 [u];omega
  have hN:=h.new (d:=none) (dead:=[]) (mc:=.box t0 a) hfr (λh=>by grind) ((Ext.alloc _ w (.cells #[u] t0)).mono λ_ hh=>hh) (λX' hle hw hZ=>⟨w.heap.size,u,rfl,by simp_all,hu X' hle⟩) (λb hb=>by have hb:some _=some b:=hb;simp_all) rfl;refine hN.val (Ext.refl _ _) ⟨[.pointer _],rfl,⟨?_,?_,rfl⟩,trivial⟩
  .show(σ.app _ _ _).mem fr≠.never;rw[o8];have:lk fr ((fr,.box t0 a)::([]).map λid=>(id,(.dead:U.MC)))=some (.box t0 a):=by show(bif Nat.beq fr fr then some _ else _)=_;simp_all
   simp_all
  .show _=c0j π fr _ fr;simp[c0j]
 unfold h3i at hev;split at hev;.rename_i id;match B,hall with
  |[u],hall=>
    have hu:=hall.1;have hm:=h.mem id;simp [Q.Ev]at hev;split at hev
    .rename_i l hmem;rw[hmem]at hm;let⟨mb,hp,_,_⟩:=hm;obtain⟨hfr,m1,hm1,rfl,rfl⟩:=b28 hev;have huv:u=.map (some mb):=by rw[hu.2.1];exact hp
     exact fin u _ rfl (by rw[huv];rfl) (λX' hle=>⟨(hle.u id hu.1).1,by rw[(hle.u id hu.1).2];exact hu.2.1,by rw[huv];rfl⟩) hfr
    .exact hev.elim|[],hall=>exact hall.elim|_::_::_,hall=>exact hall.2.elim
 .rename_i c0 c l;match B,hall with|[u],hall=>have hu:=hall.1;obtain⟨hfr,m1,hm1,rfl,rfl⟩:=b28 hev;exact fin u _ rfl (c0w (c7u hu)) (λX' hle=>k9.le hle hu) hfr|[],hall=>exact hall.elim|_::_::_,hall=>exact hall.2.elim
 .match B,hall with|[u],hall=>have hu:=hall.1;obtain⟨hfr,m1,hm1,rfl,rfl⟩:=b28 hev;exact fin u _ rfl (by rw[hu];rfl) (λX' hle=>hu) hfr|[],hall=>exact hall.elim|_::_::_,hall=>exact hall.2.elim
 .exact hev.elim
def g3k(h:Rel E Z π σ ρ w){d:A3 Tmp}{ty:TypeId}{ps:String}{af:Array Edge}{g:A3 (Nat×Bool)}{x:Operand}{args:Array Operand}{tys:Array TypeId}{f:FuncId}{q:Nat->O U.AV->U.Q}{as cs:O U.AV}{vs fs:O A5}(hx:ev ρ x=.func (.func f) fs.toArray vs.toArray)(hcs:y7 (a1p (cx Z π σ w)) cs vs)(has:y7 (AVR (cx Z π σ w)) as (fs++args.toList.map (ev ρ)))(hk:d6v P f q)(hev:(q fr (as++cs)).Ev σ m0 m v ws):a48 P E σ ρ w ⟨d,.call ⟨.value x,args,tys⟩,ty,ps,af,g⟩ v ws:=by
 have e:(fs.toArray++args.map (ev ρ)++vs.toArray)=(fs++args.toList.map (ev ρ)++vs).toArray:=by simp_all
 have hrun:(execOp (ev ρ) ⟨d,.call ⟨.value x,args,tys⟩,ty,ps,af,g⟩).run P w=.ok (.enter f (fs++args.toList.map (ev ρ)++vs).toArray) w:=by have hc:=hk.1 (fs.toArray++args.map (ev ρ)++vs.toArray) w;rw[e]at hc;simp [execOp,resolve,Deferred.ofValue,hx,Sem.run_bind];simp [qQ]at hc;simp[invoke,hc,e]
 unfold a48 a0k;rw[hrun];exact(hk.2 E Z π σ ρ w fr _ _ _ _ _ _ h (a87 has (hcs.mono λ_ _ hh=>AVR.of1 hh)) hev).mono λe' w'⟨u,he,hP⟩=>⟨u,he,hP d⟩
def d6c(hU:UOK U){Φ:Phi U}(hΦ:∀f as fe,Φ f as=some fe->c9b P f fe)(h:Rel E Z π σ ρ w){d:A3 Tmp}{ty:TypeId}{ps:String}{af:Array Edge}{g:A3 (Nat×Bool)}{x:Operand}{args:Array Operand}{tys:Array TypeId}{f:FuncId}{as cs:O U.AV}{vs fs:O A5}(hx:ev ρ x=.func (.func f) fs.toArray vs.toArray)(hcs:y7 (a1p (cx Z π σ w)) cs vs)(has:y7 (AVR (cx Z π σ w)) as (fs++args.toList.map (ev ρ)))(hev:(f8h Φ fr f (as++cs)).Ev σ m0 m v ws):a48 P E σ ρ w ⟨d,.call ⟨.value x,args,tys⟩,ty,ps,af,g⟩ v ws:=by
 unfold f8h at hev;split at hev;case h_2=>exact hev.elim
 rename_i fe hfe;have hkn:=hΦ f _ fe hfe;split at hev;.exact f7p hU h hx hcs has (by unfold c9b at hkn;simp_all) hev
 .exact g3k h hx hcs has (by unfold c9b at hkn;simp_all) hev
 rename_i hq;have hkn:(Spec P f fe/\b44 P f)\/d6d P f fe:=by unfold c9b at hkn;rw[hq]at hkn;omega
 split at hev;case h_2=>exact hev.elim
 rename_i hck;simp only[qB]at hck;have hall0:=a87 has (hcs.mono λ_ _ hh=>AVR.of1 hh);have hlen0:(fs++args.toList.map (ev ρ)++vs).length=npK fe.s.ps:=by rw[<-y7.length hall0];exact qC hck.2
 let⟨ex,exv,m9,hex,hev⟩:=g9f h hev;have hall:=a87 hall0 hex;let⟨xs,is,fz,m1,hev,h1,h2,h3,h4⟩:=f1q hU h hall hall hev;split at hev;case h_2=>exact hev.elim
 rename_i hap;let⟨bb,hr,hev⟩:=hev;have hev:=c5z _ _ _ hev;let⟨hnev,m2,hev⟩:=d4r hev;let⟨hnev2,m3,hm1,hv0,hws⟩:=d4r hev;subst hv0;rw[hws];have e:(fs.toArray++args.map (ev ρ)++vs.toArray)=(fs++args.toList.map (ev ρ)++vs).toArray:=by simp
 have htk:(fs++args.toList.map (ev ρ)++vs++exv).take (npK fe.s.ps)=fs++args.toList.map (ev ρ)++vs:=by rw[<-hlen0,take_left]
 have hs:∀t,t<npK fe.s.ps->c7a ((fs++args.toList.map (ev ρ)++vs++exv).take (npK fe.s.ps)) t=c7a (fs++args.toList.map (ev ρ)++vs++exv) t:=by intro t ht;simp [c7a,getD_eq_getElem?_getD,getElem?_take_of_lt ht]
 have hlen:=f0v (h4 (λb=>Z b\/b50 σ π fz b) (λb h=>.inl h) (λb h=>.inr h))
 have hpar:=f2x hU h hck.1 hs h2 h4 hap (by intro j u hu;simp only[c7a,getD_eq_getElem?_getD,hu,Option.getD_some]);unfold a48 a0k;rcases hkn with⟨hspec,hcall⟩|hspec
 .have hrun:(execOp (ev ρ) ⟨d,.call ⟨.value x,args,tys⟩,ty,ps,af,g⟩).run P w=.ok (.enter f (fs++args.toList.map (ev ρ)++vs).toArray) w:=by have hc:=hcall (fs.toArray++args.map (ev ρ)++vs.toArray) w;rw[e]at hc;simp [execOp,resolve,Deferred.ofValue,hx,Sem.run_bind];simp [qQ]at hc;simp[invoke,hc,e]
  rw[hrun];have hS:=hspec xs bb hr _ _ w _ hlen hpar;rw[htk]at hS;refine hS.mono λe w'⟨u,he,hP⟩=>⟨u,he,?_⟩;exact d6f hU h h1 h2 h3 h4 hap hck.1 hnev hnev2 hP
 .let⟨u,w',hc,hP⟩:=hspec xs bb hr _ _ w _ hlen hpar;rw[htk]at hc;have hrun:(execOp (ev ρ) ⟨d,.call ⟨.value x,args,tys⟩,ty,ps,af,g⟩).run P w=.ok (.value u) w':=by simp [execOp,resolve,Deferred.ofValue,hx,Sem.run_bind];simp [qQ]at hc;simp[invoke,hc,e]
  rw[hrun];exact d6f hU h h1 h2 h3 h4 hap hck.1 hnev hnev2 hP
end
end Go.SX
namespace Go.PL
open Go
section
variable {P:Program} {w:World} {α:Type} {B:Nat} {E:TypeId} {n:Nat} {cells:α -> O A5} {v:A5} {l r:O α} {t:TypeId}
def f4p{lo hi:A3 A5}{i j:Int}(hn:∀x,(cells x).length=n)(ht:P.underlying t=some (.slice E))(he:(P.info? E).map (·.size)=some n)(hO:Own B E n cells w v l)(hs:a1x l i j=some r)(hlo:(lo=none/\i=0)\/lo=some (.int .i64 i))(hhi:(hi=none/\j=(l.length:Int))\/hi=some (.int .i64 j)):∃u,(Instr.sliceAt t v lo hi none).run P w=.ok u w/\u.oneCell'=true/\Own B E n cells w u r/\(∀k,u.ownBlock=some k->v.ownBlock=some k)/\(j=(l.length:Int)->d0z u v n i r.length):=by
 let⟨h0,h1,h2,hr⟩:=b3y hs;have hlen:r.length=j.toNat-i.toNat:=by rw[hr,length_take,length_drop];omega
 let⟨ad,cap,hv,hcap,_⟩:=hO.shape;refine⟨.slice (if cap=i.toNat then ad else ad.map (·.add (i.toNat*n))) (j.toNat-i.toNat) (cap-i.toNat),?_,rfl,?_,?_,?_⟩;.cases hinfo:P.info? E with|none=>simp_all|some q=>
    simp [hinfo,Option.map_some,Option.some.injEq]at he;subst hv;have hj:(0<=j/\j<=(cap:Int)):=by omega
    have hij:(0<=i/\i<=(j.toNat:Int)):=by omega
    rcases hlo with⟨rfl,rfl⟩|rfl<;>rcases hhi with⟨rfl,hl⟩|rfl
    .have e1:=by omega
     simp[Instr.sliceAt,Instr.slice,run_underlying ht,Instr.sliceBounds,sizeOf,typeInfo,hinfo,e1]
    .simp[Instr.sliceAt,Instr.slice,run_underlying ht,Instr.sliceBounds,Instr.sliceBound,asIntOf,hj,sizeOf,typeInfo,hinfo]
    .have e1:j.toNat=l.length:=by omega
     rw[e1]at hij;simp[Instr.sliceAt,Instr.slice,run_underlying ht,Instr.sliceBounds,Instr.sliceBound,asIntOf,hij,sizeOf,typeInfo,hinfo,he,e1]
    .simp[Instr.sliceAt,Instr.slice,run_underlying ht,Instr.sliceBounds,Instr.sliceBound,asIntOf,hj,hij,sizeOf,typeInfo,hinfo,he];omega
 .rcases hO with⟨hv2,hl⟩|⟨gb,off,cap2,cur,hv2,hg,hh,hc,hm,hsz,htk⟩
  .rw[hv2]at hv;simp [Value.slice.injEq]at hv;let⟨rfl,_,rfl⟩:=hv;have ha:i.toNat=0:=by omega
   have hb:j.toNat=0:=by omega
   have:r=[]:=List.length_eq_zero_iff.1 (by omega);rw[this,ha,hb];exact Own.nil _ _ _ _ _
  .rw[hv2]at hv;simp only[Value.slice.injEq]at hv;let⟨rfl,_,rfl⟩:=hv;by_cases hca:cap2=i.toNat
   .have:r=[]:=List.length_eq_zero_iff.1 (by omega);refine .inr ⟨gb,off,cap2-i.toNat,cur,by grind,hg,hh,by omega,by omega,?_,?_⟩;.grind
    .rw[this];simp
   .rw[if_neg hca];have hmul:cap2*n=i.toNat*n+(cap2-i.toNat)*n:=by rw[<-Nat.add_mul];congr 1;omega
    refine .inr ⟨gb,off+i.toNat*n,cap2-i.toNat,cur,by rw[hlen,Option.map_some,Addr.add_lit],hg,hh,by omega,by omega,by omega,?_⟩;have e1:=hr.symm;have e2:=c6c hn l i.toNat;have key:∀(l:O α)(k:Nat),k<=l.length->(l.flatMap cells).take (k*n)=(l.take k).flatMap cells:=by intro l;induction l with|nil=>simp|cons y l ih=>intro k hk;cases k with|zero=>simp|succ k=>rw[take_succ_cons,flatMap_cons,flatMap_cons,Nat.succ_mul,Nat.add_comm,<-hn y,take_length_add_append,hn y,ih k (by simpa using hk)]
    have e3:=key (l.drop i.toNat) (j.toNat-i.toNat) (by rw[length_drop];omega);rw[e1,<-e2,<-htk]at e3;rw[<-e3,drop_take,take_take,drop_drop,hlen];congr 1;have:(j.toNat-i.toNat)*n<=l.length*n-i.toNat*n:=by rw[<-Nat.sub_mul];exact Nat.mul_le_mul_right n (by omega)
    omega
 .intro k hk;rw[hv];cases ad with|none=>split at hk<;>simp[Value.ownBlock]at hk|some ad=>
    split at hk;.exact hk
    .have hk:some (ad.add (i.toNat*n)).block=some k:=hk;rw[a2h]at hk;exact hk
 .intro hjl;refine⟨ad,l.length,cap,_,_,hv,h0,by omega,by rw[hlen],λhp=>?_⟩;have hne:=by omega
  cases ad with
  |none=>
    rcases hO with⟨h5,h6⟩|⟨g',off',cap',cur,h5,_⟩;.simp_all
    grind|some ad=>grind
end
end Go.PL
namespace Go.SX
open Go Go.PL
section
variable {P:Program} {U:Uni}
variable {E:Env} {Z:Nat -> Prop} {π:Nat -> A5} {σ:U.St} {ρ:Nat -> A5} {w:World}
variable {d:A3 Tmp} {ty:TypeId} {ps:String} {af:Array Edge} {g:A3 (Nat×Bool)} {x y z:Operand} {m0 m:Nat} {a b c v:U.AV} {ws:O (Nat×U.MC)} {fr:Nat}
def e6g{α β:Type}{p:α->β->Prop}{l:O α}{r r':O β}{i j:Int}(h:y7 p l r)(hs:a1x r i j=some r'):∃l',a1x l i j=some l'/\y7 p l' r':=by
 let⟨h0,h1,h2,hr⟩:=b3y hs;refine⟨(l.drop i.toNat).take (j.toNat-i.toNat),?_,?_⟩;.unfold a1x;rw[if_pos ⟨h0,h1,by rw[h.length];omega⟩]
 .rw[hr];refine y7.of_get (by simp[h.length]) λk a b ha hb=>?_;rw[getElem?_take]at ha hb;split at ha;.rw[getElem?_drop]at ha hb;let⟨b',hb',hp⟩:=h.get ha;simp_all
  simp_all
def c9n{t e:TypeId}(h:d2i P t e=true):P.underlying t=some (.slice e):=by unfold d2i at h;split at h;all_goals simp_all
def d2b{t:TypeId}{c:U.C}{l r:O (U.T c)}{e0:TypeId}{X:Cx}{u:A5}{lo hi:A3 A5}{i j:Int}(hm:MR X (.sl e0 c l) u)(he:(b2o P t c&&d2i P t e0)=true)(hs:a1x l i j=some r)(hlo:(lo=none/\i=0)\/lo=some (.int .i64 i))(hhi:(hi=none/\j=(l.length:Int))\/hi=some (.int .i64 j)):∃u',(Instr.sliceAt t u lo hi none).run P X.w=.ok u' X.w/\u'.oneCell'=true/\MR X (.sl e0 c r) u'/\(∀k,u'.ownBlock=some k->u.ownBlock=some k)/\(j=(l.length:Int)->d0z u' u (U.n c) i r.length):=by
 simp [qB]at he;let⟨e,he1,he2,_,_⟩:=b1m he.1;have he3:=c9n he.2;rw[he1]at he3;cases he3;let⟨css,hO,hr⟩:=hm;let⟨css',hs',hr'⟩:=e6g hr hs;have hhi':(hi=none/\j=(css.length))\/hi=some (.int .i64 j):=by rw[hr.length];omega
 let⟨u',h1,h1',h2,h3,h4⟩:=f4p (λr=>r.2.1) he1 (a9m he2) hO hs' hlo hhi';exact⟨u',h1,h1',⟨css',h2,hr'⟩,h3,λhj=>by rw[<-hr'.length];exact h4 (by rw[hr.length];omega)⟩
def f1w(h:Rel E Z π σ ρ w){t:TypeId}{lo hi:A3 Operand}(hx:AVR (cx Z π σ w) a (ev ρ x))(hev:(g3w P t a lo hi).Ev σ m0 m v ws):a48 P E σ ρ w ⟨d,.slice t x lo hi none,ty,ps,af,g⟩ v ws:=by
 unfold g3w at hev;split at hev;case h_2=>exact hev.elim
 rename_i id;have hm:=h.mem id;simp [Q.Ev]at hev;split at hev;case h_2=>exact hev.elim
 rename_i e0 c l hmem;split at hev;case h_2=>exact hev.elim
 rename_i he;let⟨i,m1,hev,hlo⟩:=b1t h hev;split at hev;case h_2=>exact hev.elim
 obtain⟨r,hr,hm1,rfl,rfl⟩:=hev;rw[hmem]at hm;let⟨u',hrun,_,_,_,hV⟩:=d2b hm he hr hlo (.inl ⟨rfl,rfl⟩);have hrun:(Instr.sliceAt t _ _ _ _).run P w=.ok u' w:=hrun;refine g8 h ?_ ⟨hx.1,hV rfl⟩;have hxv:ev ρ x=π id:=hx.2.1;rw[<-hxv]at hrun;simp[YV,execOp,hrun]
def e84(h:Rel E Z π σ ρ w){t:TypeId}{lo hi:A3 Operand}(hx:AVR (cx Z π σ w) a (ev ρ x))(hev:(h41 P fr t a lo hi).Ev σ m0 m v ws):a48 P E σ ρ w ⟨d,.slice t x lo hi none,ty,ps,af,g⟩ v ws:=by
 unfold h41 at hev;split at hev;case h_2=>exact hev.elim
 rename_i id;have hm:=h.mem id;simp [Q.Ev]at hev;split at hev;case h_2=>exact hev.elim
 rename_i e0 c l hmem;split at hev;case h_2=>exact hev.elim
 rename_i he;let⟨i,m1,hev,hlo⟩:=b1t h hev;let⟨j,m2,hev,hhi⟩:=b1t h hev;let⟨r,hr,hev⟩:=hev;let⟨hn,m3,hm3,hv0,hws⟩:=b28 hev;subst hv0;rw[hws];rw[hmem]at hm;let⟨u',hrun,h1,hMR,hown,_⟩:=d2b hm he hr hlo hhi;have hrun:(Instr.sliceAt t _ _ _ _).run P w=.ok u' w:=hrun;have hxv:ev ρ x=π id:=hx.2.1;rw[<-hxv]at hrun;have hex:(execOp (ev ρ) ⟨d,.slice t x lo hi none,ty,ps,af,g⟩).run P w=.ok (.value u') w:=by simp[execOp,hrun]
 unfold a48 a0k;rw[hex];refine⟨Z,c0j π fr u',?_⟩;refine h.new (dead:=[id]) hn (λh=>by cases h) (Ext.refl _ _) (λX' hle hw _=>?_) (λq hq=>?_) h1;.exact MR.le hle hMR λb _ _=>by rw[hw];rfl
 .let⟨css,hO,_⟩:=hMR;let⟨ad,cap,hv,_⟩:=hO.shape;have hq2:=(a95 hv).2 hq;refine⟨(hO.lt hq2).2,.inr ⟨id,by simp,?_⟩⟩;rw[hmem];let⟨css0,hO0,_⟩:=hm;let⟨ad0,cap0,hv0,_⟩:=hO0.shape;exact(a95 hv0).1 (hown _ hq2)
def e8j{α:Type}{z:α}{l r:O α}{lo:Int}{n:Nat}(h:h1h z l lo n=some r):0<=lo/\lo.toNat+n=l.length/\r=b5l z l lo:=by unfold h1h at h;simp_all
def d4v{α β:Type}{p:α->β->Prop}{a:α}{b:β}(h:p a b):∀n:Nat,y7 p (List.replicate n a) (List.replicate n b)|0=>trivial|n+1=>⟨h,d4v h n⟩
def d6p{α β:Type}{p:α->β->Prop}:∀{l:O α}{r:O β}(n:Nat),y7 p l r->y7 p (l.take n) (r.take n)|_,_,0,_=>by simp[y7]|[],[],_+1,_=>trivial|_::_,_::_,n+1,h=>⟨h.1,d6p n h.2⟩|[],_::_,_+1,h=>h.elim|_::_,[],_+1,h=>h.elim
def e6s(hU:UOK U)(h:Rel E Z π σ ρ w){t:TypeId}(hx:AVR (cx Z π σ w) a (ev ρ x))(hev:(e76 P t a).Ev σ m0 m v ws):a48 P E σ ρ w ⟨d,.call ⟨.builtin .clear,#[x],#[t]⟩,ty,ps,af,g⟩ v ws:=by
 unfold e76 at hev;split at hev;case h_2=>exact hev.elim
 rename_i id c lo n;have hm:=h.mem id;simp [Q.Ev]at hev;split at hev;case h_2=>exact hev.elim
 rename_i e c' l' hmem;split at hev;case h_2=>exact hev.elim
 rename_i l za hck hl hza;simp [qB]at hck;let⟨he,hx2⟩:=a3i (G:=noG) (w:=w) hl;subst he;subst hx2;split at hev;case h_2=>exact hev.elim
 rename_i zv hzv;obtain⟨r,hr,hm1,rfl,rfl⟩:=hev;obtain⟨h0,hlen,rfl⟩:=e8j hr;rw[hmem]at hm;let⟨css,hO,hrs⟩:=hm;let⟨ie,zval,hie,hz,hzs,hsz1,hp1,hp2⟩:=c1w hck.2;have hzc:∃zr:Raw (U.n c'),zval.cells.toList=zr.1/\∀G w,(Rp c').rep G w zr.1 zv:=by
  unfold b7m at hza;rw[hie]at hza;dsimp only at hza;rw[hz]at hza;have key:∀(Z':Nat->Prop)(w':World),(Rp c').rep _ w' _ zv:=λZ' w'=>by let⟨u,hu,hru⟩:=c13 hU (X:=cz Z' w') _ _ _ _ hza;have:=b85 hU hzv hru;rw[hu]at this;exact this
  have key2:∀(G:Nat->Prop)(w':World),(Rp c').rep G w' _ zv:=λG w'=>(Rp c').weaken (key (λb=>¬G b) w') λb _ hg hz=>hz hg;exact⟨d0s (key2 noG w),rfl,key2⟩
 let⟨zr,hzr1,hzr2⟩:=hzc;refine(show a0k P _ _ w _ from (e5y (F:=[(0,λ_ w'=>Own 0 e _ _ w' (π id) _)]) (p:=⟨[],[],[],[0],[],[],[]⟩) (i:=0) (ty:=ty) (ps:=ps) (af:=af) (g:=g) rfl rfl (λb hb=>hb) (λr=>r.2.1) (λr=>r.2.2) (by omega) rfl (c9n hck.1) (λw'=>by simp[zeroValue,typeInfo,hie,hz]) hzr1 hx.2 hO)).mono λu w'⟨hE,hf⟩=>?_;have hf:Own 0 e _ _ w' _ _:=hf;refine⟨Z,π,h.set (λhh=>by simp_all) (λhh=>by cases hh) (hE.mono (λb hb=>by rw[hmem];let⟨ad0,cap0,hv0,_⟩:=hO.shape;exact(a95 hv0).1 hb)) (λX' hle hw=>?_) (λy hy=>?_) λX' _=>trivial⟩;.refine⟨b5l zr css lo,by rw[hw];omega,?_⟩;unfold b5l;rw[hrs.length];exact a87 (d6p _ (hrs.mono λ_ _ hh=>c42 hle hh)) (d4v (p:=λ(r:Raw _)x=>(Rp c').rep _ _ r.1 x) (hzr2 _ _) _)
 .rw[hmem];exact hy
end
end Go.SX
namespace Go.PL
open Go
section
variable {P:Program} {w:World} {α:Type} {R:TyR α} {G:Nat -> Prop} {v:A5} {l r:O α} {t e:TypeId}
def k9.cut3{lo hi mx:Int}(h:k9 R G w v l)(hs:a1x l lo hi=some r)(h1:hi<=mx)(h2:mx<=(l.length:Int)):∃a cap,v=.slice a l.length cap/\l.length<=cap/\k9 R G w (.slice (if mx.toNat=lo.toNat then a else a.map (·.add (lo.toNat*R.n))) (hi.toNat-lo.toNat) (mx.toNat-lo.toNat)) r:=by
 let⟨h0,h1',h2',hr⟩:=b3y hs;have hlen:r.length=hi.toNat-lo.toNat:=by rw[hr,length_take,length_drop];omega
 rcases h with⟨hv,rfl⟩|⟨a,cap,hv,hc,hm,hi'⟩
 .refine⟨none,0,hv,by simp,.inl ⟨?_,by grind⟩⟩;have e1:lo.toNat=0:=by grind
  simp_all
 .refine⟨some a,cap,hv,by omega,.inr ?_⟩;by_cases hz:mx.toNat=lo.toNat;.refine⟨a,mx.toNat-lo.toNat,by grind,by omega,by omega,λi x hx=>?_⟩;have:r=[]:=List.length_eq_zero_iff.1 (by omega);rw[this]at hx;simp at hx
  .refine⟨a.add _,mx.toNat-lo.toNat,by rw[if_neg hz,hlen];rfl,by omega,by omega,λi x hx=>?_⟩;rw[hr,getElem?_take]at hx;split at hx;.rw[getElem?_drop]at hx;let⟨cs,h3,h4,h5,h6⟩:=hi' _ _ hx;refine⟨cs,h3,by rw[a2h];omega,by rw[a2h];omega,?_⟩;rw[Deep.add_add,<-Nat.add_mul];omega
   grind
def f4d{lo:A3 A5}{i j k:Int}(ht:P.underlying t=some (.slice e))(he:(P.info? e).map (·.size)=some R.n)(h:k9 R G w v l)(hs:a1x l i j=some r)(h1:j<=k)(h2:k<=(l.length:Int))(hlo:(lo=none/\i=0)\/lo=some (.int .i64 i)):∃u,(Instr.sliceAt t v lo (some (.int .i64 j)) (some (.int .i64 k))).run P w=.ok u w/\k9 R G w u r:=by let⟨a,cap,hv,hcap,hrep⟩:=h.cut3 hs h1 h2;let⟨h0,h1',h2',_⟩:=b3y hs;refine⟨_,?_,hrep⟩;cases hinfo:P.info? e with|none=>simp_all|some q=>
   simp [hinfo,Option.map_some,Option.some.injEq]at he;subst hv;have hk:(0<=k/\k<=(cap)):=by omega
   have hj:(0<=j/\j<=(k.toNat)):=by omega
   have hij:(0<=i/\i<=(j.toNat)):=by omega
   have hj2:j<=max k 0:=by omega
   have hij2:i<=max j 0:=by omega
   rcases hlo with⟨rfl,rfl⟩|rfl;.simp[Instr.sliceAt,Instr.slice,run_underlying ht,Instr.sliceBounds,Instr.sliceBound,asIntOf,hj,hk,hj2,(by omega),sizeOf,typeInfo,hinfo,he]
   .simp[Instr.sliceAt,Instr.slice,run_underlying ht,Instr.sliceBounds,Instr.sliceBound,asIntOf,hj,hk,hij,hj2,hij2,sizeOf,typeInfo,hinfo,he]
end
end Go.PL
namespace Go.SX
open Go Go.PL
def d5n(z:Array A5)(hz:0<z.size):∀k:Nat,(madeCells z (k*z.size)).toList=(List.replicate k z.toList).flatten
 |0=>by simp[madeCells]|k+1=>by
   have ih:=d5n z hz k;simp [madeCells,Array.toList_map,Array.toList_range]at ih⊢;rw[replicate_succ,flatten_cons,<-ih,Nat.add_mul,Nat.add_comm _,range_add,map_append,map_map];congr 1
   .apply ext_getElem;.simp
    .intro i h1 h2;simp [List.length_map,length_range]at h1;simp[Nat.mod_eq_of_lt h1,h1]
   .apply map_congr_left;simp_all
def f8u{α:Type}{bytes:Nat}{z:α}{n m:Int}{r:O α}(h:mkI bytes z n m=some r):0<=n/\m=n/\(bytes:Int)*n<=281474976710656/\n<=9223372036854775807/\r=List.replicate n.toNat z:=by unfold mkI at h;simp_all
def c0n{U:Uni}{a:U.AV}{n:Int}(h:g1d a=some n):a=.int .i64 n:=by unfold g1d at h;grind
def c4x:O (Int×Int)->Int->Nat|[],_=>0|q::r,k=>if q.1=k then 0 else c4x r k+1
def b3d(q:(Int×Int)×Nat):MapEntry:={key:=.int .i64 q.1.1,val:=.int .i64 q.1.2,born:=q.2}
def d4f(k:Int):∀(l:O (Int×Int))(n i:Nat),Instr.findNow (.int .i64) (.int .i64 k) ((l.zipIdx n).map b3d) i=some (match b5r l k with|some v=>some (i+c4x l k,.int .i64 v)|none=>none)
 |[],n,i=>rfl|q::r,n,i=>by
   by_cases hq:q.1=k;.subst hq;simp[Instr.findNow,Instr.sameNow,b3d,b5r,c4x]
   .have ih:=d4f k r (n+1) (i+1);simp [Instr.findNow,Instr.sameNow,b3d,b5r,c4x,if_neg hq,if_true];grind
def e3j{k:Int}:∀{l:O (Int×Int)}{v:Int},b5r l k=some v->c4x l k<l.length
 |[],v,h=>by cases h|q::r,v,h=>by
   unfold b5r at h;unfold c4x;split at h;.simp_all
   .have:=e3j h;simp_all
def c6n{k v:Int}:∀{l:O (Int×Int)}{v0:Int}(n:Nat),b5r l k=some v0->((l.zipIdx n).map b3d).modify (c4x l k) (λe=>{e with key:=.int .i64 k,val:=.int .i64 v})=((a62 l k v).zipIdx n).map b3d/\(a62 l k v).length=l.length/\(a62 l k v).map (·.1)=l.map (·.1)
 |[],v0,n,h=>by cases h|q::r,v0,n,h=>by
   unfold b5r at h;unfold c4x a62;split at h;.rename_i hq;subst hq;simp[zipIdx_cons,b3d]
   .let⟨h1,h2,h3⟩:=c6n (v:=v) (n+1) h;simp_all
def d1r{k v:Int}:∀{l:O (Int×Int)},b5r l k=none->a62 l k v=l++[(k,v)]/\∀q∈l,q.1≠k
 |[],h=>⟨rfl,λq hq=>by grind⟩|q::r,h=>by
   unfold b5r at h;unfold a62;split at h;.grind
   .let⟨h1,h2⟩:=d1r (v:=v) h;grind
def c81{P:Program}{t:TypeId}(h:d27 P t=true):∃k e i,P.underlying t=some (.map k e)/\P.underlying k=some (.int .i64)/\P.info? e=some i/\i.zero=some (.int .i64 0):=by
 unfold d27 at h;split at h
 .split at h
  .split at h;.grind
   simp_all
  simp_all
 simp_all
section
variable {P:Program} {U:Uni} {E:Env} {Z:Nat -> Prop} {π:Nat -> A5} {σ:U.St} {ρ:Nat -> A5} {w:World}
variable {d:A3 Tmp} {ty:TypeId} {ps:String} {af:Array Edge} {g:A3 (Nat×Bool)} {x y z:Operand} {m0 m:Nat} {a b c v:U.AV} {ws:O (Nat×U.MC)} {fr:Nat}
def f6k(hU:UOK U){e:TypeId}{c:U.C}{a:U.AV}{zv:U.T c}(hok:d81 P e (U.n c)=true)(hza:b7m P e=some a)(hzv:prj c a=some zv):∃ie z,P.info? e=some ie/\ie.zero=some z/\ie.size=U.n c/\0<U.n c/\z.cells.size=U.n c/\∃zr:Raw (U.n c),z.cells.toList=zr.1/\∀G w,(Rp c).rep G w zr.1 zv:=by
 let⟨ie,zval,hie,hz,hzs,hsz1,hp1,hp2⟩:=c1w hok;refine⟨ie,zval,hie,hz,hsz1,hp1,hzs,?_⟩;unfold b7m at hza;rw[hie]at hza;dsimp only at hza;rw[hz]at hza;have key:∀(Z':Nat->Prop)(w':World),(Rp c).rep _ w' _ zv:=λZ' w'=>by let⟨u,hu,hru⟩:=c13 hU (X:=cz Z' w') _ _ _ _ hza;have:=b85 hU hzv hru;rw[hu]at this;exact this
 have key2:∀(G:Nat->Prop)(w':World),(Rp c).rep G w' _ zv:=λG w'=>(Rp c).weaken (key (λb=>¬G b) w') λb _ hg hz=>hz hg;exact⟨d0s (key2 noG default),rfl,key2⟩
def d0y(hU:UOK U)(h:Rel E Z π σ ρ w){t:TypeId}(hx:AVR (cx Z π σ w) a (ev ρ x))(hy:AVR (cx Z π σ w) b (ev ρ y))(hev:(c5k P fr t a b).Ev σ m0 m v ws):a48 P E σ ρ w ⟨d,.makeSlice t x y,ty,ps,af,g⟩ v ws:=by
 unfold c5k at hev;split at hev;case h_2=>exact hev.elim
 rename_i e hu;split at hev;case h_2=>exact hev.elim
 rename_i c za n n' hcd hza hn hm;split at hev;case h_2=>exact hev.elim
 rename_i zv hok hzv;let⟨r,hr,hev⟩:=hev;obtain⟨hfr,m1,hm1,rfl,rfl⟩:=b28 hev;obtain⟨h0,rfl,hb,h63,rfl⟩:=f8u hr;have hx:=c0n hn▸hx;have hy:=c0n hm▸hy;have hx:ev ρ x=.int _ n':=hx;have hy:ev ρ y=.int _ n':=hy;let⟨ie,zval,hie,hz,hsz,hpos,hzs,zr,hzr1,hzr2⟩:=f6k hU hok hza hzv;have hbt:d2w P e=ie.bytes:=by unfold d2w;rw[hie]
 rw[hbt]at hb;refine b1u h (obj:=.cells (madeCells zval.cells (n'.toNat*ie.size)) e) (v':=.slice (some ⟨w.heap.size,0,none⟩) n'.toNat n'.toNat) hfr ?_ (λh=>by cases h) rfl rfl (λb hb=>hb) ?_;.simp[execOp,hx,hy,(run_make w t e ie _ hu hie hz _ _ n' n' h0 _ hb h63),Result.andThen]
 .intro X' hle hw hZ;refine⟨List.replicate _ zr,.inr ⟨w.heap.size,0,n'.toNat,madeCells zval.cells (n'.toNat*ie.size),by simp_all,Nat.zero_le _,by rw[hw];show(w.heap.push _)[w.heap.size]?=_;simp,by simp_all,by simp [maxLen];omega,by rw[size_madeCells,hsz];omega,?_⟩,d4v (p:=λ(r:Raw _)x=>(Rp c).rep _ _ r.1 x) (hzr2 _ _) _⟩;have hfl:(List.replicate n'.toNat zr).flatMap Subtype.val=(List.replicate n'.toNat zval.cells.toList).flatten:=by rw[hzr1,flatMap_def,map_replicate]
  have hmf:=d5n zval.cells (by omega) n'.toNat;rw[hzs,<-hsz]at hmf;rw[hfl,drop_zero,length_replicate,hmf,take_of_length_le];rw[<-hmf,Array.length_toList,size_madeCells,hsz];omega
def d72{α:Type}{l r:O α}{i j k:Int}(h:c63 l i j k=some r):j<=k/\k<=(l.length:Int)/\a1x l i j=some r:=by unfold c63 at h;simp_all
def d0b(h:Rel E Z π σ ρ w){t:TypeId}{c:U.C}{l r:O (U.T c)}{lo:A3 Operand}{hi mx:Operand}{i j k:Int}(hx:k9 (Rp c) (cx Z π σ w).G w (ev ρ x) l)(he:b2o P t c=true)(hlo:(lo.map (ev ρ)=none/\i=0)\/lo.map (ev ρ)=some (.int .i64 i))(hhi:((some hi).map (ev ρ)=none/\j=0)\/(some hi).map (ev ρ)=some (.int .i64 j))(hmx:((some mx).map (ev ρ)=none/\k=0)\/(some mx).map (ev ρ)=some (.int .i64 k))(hs:c63 l i j k=some r):a48 P E σ ρ w ⟨d,.slice t x lo (some hi) (some mx),ty,ps,af,g⟩ (.list c r) []:=by
 let⟨e,he1,he2,_,_⟩:=b1m he;let⟨s1,s2,s3⟩:=d72 hs;rcases hhi with⟨hh,_⟩|hhi;.grind
 rcases hmx with⟨hh,_⟩|hmx;.grind
 let⟨u,hrun,hrep⟩:=f4d he1 (a9m he2) hx s3 s1 s2 hlo;exact g8 h (by simp[YV,execOp,hhi,hmx,hrun]) hrep
def d9t(hU:UOK U)(h:Rel E Z π σ ρ w){t:TypeId}{lo:A3 Operand}{hi mx:Operand}(hx:AVR (cx Z π σ w) a (ev ρ x))(hev:(d9n P t a lo hi mx).Ev σ m0 m v ws):a48 P E σ ρ w ⟨d,.slice t x lo (some hi) (some mx),ty,ps,af,g⟩ v ws:=by
 unfold d9n at hev;split at hev
 .split at hev;.rename_i he;let⟨i,m1,hev,hlo⟩:=b1t h hev;let⟨j,m2,hev,hhi⟩:=b1t h hev;let⟨k,m3,hev,hmx⟩:=b1t h hev;obtain⟨r,hr,hm1,rfl,rfl⟩:=hev;exact d0b h hx he hlo hhi hmx hr
  .exact hev.elim
 .rename_i id;have hm:=h.mem id;simp [Q.Ev]at hev;split at hev
  .rename_i e0 c l hmem;split at hev
   .rename_i he;let⟨i,m1,hev,hlo⟩:=b1t h hev;let⟨j,m2,hev,hhi⟩:=b1t h hev;let⟨k,m3,hev,hmx⟩:=b1t h hev;obtain⟨r,hr,hm1,rfl,rfl⟩:=hev;have hfz:FZ σ [(id,.fz c l)]:=by intro id' m' hh;simp_all
    have h1:=h.freeze hfz;refine d0b h1 ?_ he hlo hhi hmx hr;have hm1:=h1.mem id;rw[o8,b6v]at hm1;rw[hx.2.1];exact hm1
   .exact hev.elim
  .rename_i c l hmem;split at hev;.rename_i he;let⟨i,m1,hev,hlo⟩:=b1t h hev;let⟨j,m2,hev,hhi⟩:=b1t h hev;let⟨k,m3,hev,hmx⟩:=b1t h hev;obtain⟨r,hr,hm1,rfl,rfl⟩:=hev;rw[hmem]at hm;exact d0b h (by rw[hx.2.1];exact hm) he hlo hhi hmx hr
   .exact hev.elim
  .exact hev.elim
 .exact hev.elim
def d7x(h:Rel E Z π σ ρ w){t:TypeId}(hev:(e35 fr:U.Q).Ev σ m0 m v ws):a48 P E σ ρ w ⟨d,.makeMap t none,ty,ps,af,g⟩ v ws:=by
 obtain⟨hn,m1,hm,rfl,rfl⟩:=b28 hev;refine b1u h (obj:=.map #[] 0) (v':=.map (some _)) hn ?_ (λh=>by grind) rfl rfl (λb hb=>hb) ?_;.rfl
 .intro X' _ hw _;exact⟨w.heap.size,rfl,nodup_nil,by rw[hw];show(w.heap.push _)[w.heap.size]?=_;simp[b92]⟩
def e4j{t:TypeId}{l:O (Int×Int)}{k:Int}{b:Nat}{ok:Bool}(ht:d27 P t=true)(hb:w.heap[b]?=some (b92 l)):(Instr.lookup t (.map (some b)) (.int .i64 k) ok).run P w=.ok (if ok then .tuple #[.int .i64 (b5g l k),.bool (c7s l k)]else .int .i64 (b5g l k)) w:=by let⟨kt,et,i,h1,h2,h3,h4⟩:=c81 ht;have hk:=MapKept.run_findKey (w:=w) h2 (d4f k l 0 0);have hg:(getObj b).run P w=.ok (.map ((l.zipIdx 0).map b3d).toArray _) w:=MapKept.run_getObj_map hb;have hc:∀e,(Instr.checkKey e _ kt (.int _ k)).run P w=.ok () w:=λe=>MapKept.run_checkKey h2 (by rfl) e 9999;cases hget:b5r l k with|none=>cases ok<;>simp[Instr.lookup,run_underlying h1,hg,hc,hk,zeroValue,typeInfo,h3,h4,b5g,c7s,hget,Result.andThen]|some v0=>cases ok<;>simp[Instr.lookup,run_underlying h1,hg,hc,hk,b5g,c7s,hget,Result.andThen]
def e1x(h:Rel E Z π σ ρ w){t:TypeId}{ok:Bool}(hx:AVR (cx Z π σ w) a (ev ρ x))(hy:AVR (cx Z π σ w) b (ev ρ y))(hev:(e1g P t a b ok).Ev σ m0 m v ws):a48 P E σ ρ w ⟨d,.lookup t x y ok,ty,ps,af,g⟩ v ws:=by
 unfold e1g at hev;split at hev;case h_2=>exact hev.elim
 rename_i id k hk ht;have hm:=h.mem id;simp [Q.Ev]at hev;split at hev;case h_2=>exact hev.elim
 rename_i l hmem;rw[hmem]at hm;let⟨bl,hv,_,hb⟩:=hm;have hxv:ev ρ x=.map (some bl):=by rw[hx.2.1];exact hv
 have hy:=c0n hk▸hy;have hy:ev ρ y=.int _ k:=hy;have hrun:=e4j (w:=w) (k:=k) (ok:=ok) ht hb;cases ok;.obtain⟨hm1,rfl,rfl⟩:=hev;exact g8 h (by simp[YV,execOp,hxv,hy,hrun]) rfl
 .obtain⟨hm1,rfl,rfl⟩:=hev;exact g8 h (by simp[YV,execOp,hxv,hy,hrun]) ⟨[.int _ _,.bool _],rfl,rfl,rfl,trivial⟩
def d52{t:TypeId}{l:O (Int×Int)}{k u:Int}{b:Nat}(ht:d27 P t=true)(hb:w.heap[b]?=some (b92 l))(hnd:(l.map (·.1)).Nodup):(Instr.mapUpdate t (.map (some b)) (.int .i64 k) (.int .i64 u)).run P w=.ok () {w with heap:=w.heap.setIfInBounds b (b92 (a62 l k u))}/\((a62 l k u).map (·.1)).Nodup:=by
 let⟨kt,et,i,h1,h2,h3,h4⟩:=c81 ht;have hk:=MapKept.run_findKey (w:=w) h2 (d4f k l 0 0);have hb':=hb;have hg:(getObj b).run P w=.ok (.map ((l.zipIdx 0).map b3d).toArray _) w:=MapKept.run_getObj_map hb';have hs:∀o,(setObj b o).run P w=.ok () _:=λo=>MapKept.run_setObj_map o hb'
 have hc:∀e,(Instr.checkKey e _ kt (.int _ k)).run P w=.ok () w:=λe=>MapKept.run_checkKey h2 (by rfl) e 9999;cases hget:b5r l k with|none=>
   rw[hget]at hk;let⟨e1,e2⟩:=d1r (v:=u) hget;constructor;.rw[e1];simp[Instr.mapUpdate,run_underlying h1,hg,hc,hk,hs,Result.andThen,b92,zipIdx_append];rfl
   .rw[e1,map_append,nodup_append];refine⟨hnd,by simp,λp hp q hq=>?_⟩;obtain⟨x,hx,rfl⟩:=List.mem_map.1 hp;simp [map_cons,map_nil,qF]at hq;rw[hq];exact e2 x hx|some v0=>
   rw[hget]at hk;let⟨e1,e2,e3⟩:=c6n (v:=u) 0 hget;have hix:=e3j hget;have hkey:∃e0,((l.zipIdx 0).map b3d)[c4x l k]?=some e0:=⟨_,qG (by simp_all)⟩;let⟨e0,he0⟩:=hkey;constructor
   .have hst:(Instr.keyThatStays _ (.int _ k)).run P w=.ok _ w:=MapKept.run_keyThatStays (d:=.int .i64) (by rfl);have hki:((((l.zipIdx 0).map b3d).toArray[0+c4x l k]?).map (·.key)).getD (.int .i64 k)=.int .i64 k:=by rw[Nat.zero_add,getElem?_toArray,he0];exact (by
    have:∀(l:O _)(n:Nat)(v0:Int)(e0:MapEntry),b5r l k=some v0->((l.zipIdx n).map b3d)[c4x l k]?=some e0->e0.key=.int .i64 k:=by intro l;induction l with|nil=>intro n v0 e0 hh;cases hh|cons q r ih=>
       intro n v0 e0 hh h0;unfold b5r at hh;unfold c4x at h0;split at hh;.rename_i hq;rw[if_pos hq]at h0;simp[zipIdx_cons,b3d]at h0;rw[<-h0,<-hq]
       .rename_i hq;rw[if_neg hq]at h0;exact ih _ _ _ hh h0
    exact this l 0 v0 e0 hget he0)
    simp only[Instr.mapUpdate,Sem.run_bind,run_underlying h1,hg,hc,hk,Result.andThen,hki,hst,hs];have:(((l.zipIdx 0).map b3d).toArray.modify (0+c4x l k) λe=>{e with key:=.int .i64 k,val:=.int .i64 u})=((a62 l k u).zipIdx.map b3d).toArray:=by rw[Nat.zero_add,modify_toArray,e1]
    rw[this,<-e2];rfl
   grind
def d12(h:Rel E Z π σ ρ w){t:TypeId}(hx:AVR (cx Z π σ w) a (ev ρ x))(hy:AVR (cx Z π σ w) b (ev ρ y))(hz:AVR (cx Z π σ w) c (ev ρ z))(hev:(c62 P t a b c).Ev σ m0 m v ws):a48 P E σ ρ w ⟨d,.mapUpdate t x y z,ty,ps,af,g⟩ v ws:=by
 unfold c62 at hev;split at hev;case h_2=>exact hev.elim
 rename_i id k u hk hu ht;have hm:=h.mem id;simp [Q.Ev]at hev;split at hev;case h_2=>exact hev.elim
 rename_i l hmem;obtain⟨hm1,rfl,rfl⟩:=hev;rw[hmem]at hm;let⟨bl,hv,hnd,hb⟩:=hm;have hxv:ev ρ x=.map (some bl):=by rw[hx.2.1];exact hv
 have hy:=c0n hk▸hy;have hy:ev ρ y=.int _ k:=hy;have hz:=c0n hu▸hz;have hz:ev ρ z=.int _ u:=hz;let⟨hrun,hnd'⟩:=d52 (w:=w) (k:=k) (u:=u) ht hb hnd;have hlt:bl<w.heap.size:=(qN.1 hb).1;unfold a48 a0k;have hex:(execOp (ev ρ) ⟨d,.mapUpdate t x y z,ty,ps,af,g⟩).run P w=.ok .skip {w with heap:=w.heap.setIfInBounds bl (b92 (a62 l k u))}:=by simp[execOp,hxv,hy,hz,hrun,Result.andThen]
 rw[hex];have hE:Ext (λb=>MB (σ.mem id) (π id) b) w {w with heap:=w.heap.setIfInBounds bl (b92 (a62 l k u))}:=⟨rfl,rfl,rfl,by simp,λq hq hne=>by have:bl≠q:=λe=>hne (by rw[hmem,hv,e];rfl);simp_all⟩;refine⟨Z,π,h.set (λhh=>by simp_all) (λhh=>by grind) hE (λX' _ hw=>?_) (λy hy=>?_) λX' _=>trivial⟩;.exact⟨bl,hv,hnd',by simp_all⟩
 .rw[hmem];exact hy
end
section
variable {U:Uni} {P:Program}
def d3g{α:Type}(i t:Nat)(a:α)(l:O (Nat×α)):lk t ((i,a)::l)=if i=t then some a else lk t l:=by show(bif Nat.beq i t then some a else lk t l)=_;simp_all
def e4l{X:Cx}{a:U.AV}{u:A5}(hp:a03 a=true)(h:a1p X a u):b79 X a u:=by cases a<;>first|exact h|cases hp
def d4l{X:Cx}{t:TypeId}{c:U.C}{a:U.AV}{v:A5}(hl:U.lay c=[a07 a])(hp:a03 a=true)(h:MR X (.box t a) v):MR X (.box t (.st c [a])) v:=by let⟨b,u,hv,hM,ha⟩:=h;exact⟨b,.agg [u.cells.toList].flatten.toArray,hv,by simpa[Value.cells]using hM,_,rfl,hl.symm,by grind,⟨u,rfl,e4l hp ha⟩,trivial⟩
def d51{X:Cx}{t:TypeId}{c:U.C}{a:U.AV}{v:A5}(h:MR X (.box t (.st c [a])) v):MR X (.box t a) v:=by let⟨b,u,hv,hM,css,hu,hl,hp,ha⟩:=h;match css,ha with|[s],ha=>let⟨u1,h1,h0⟩:=ha.1;refine⟨b,u1,hv,?_,.of0 h0⟩;rw[hu]at hM;rw[h1];simpa[Value.cells]using hM|[],ha=>exact ha.elim|_::_::_,ha=>exact ha.2.elim
section
variable {E:Env} {Z:Nat -> Prop} {π:Nat -> A5} {σ:U.St} {ρ:Nat -> A5} {w:World}
variable {m0 m:Nat} {a b v:U.AV} {ws:O (Nat×U.MC)} {fr:Nat}
variable {d:A3 Tmp} {ty:TypeId} {ps:String} {af:Array Edge} {g:A3 (Nat×Bool)} {x y z:Operand} {m0 m:Nat} {a b v:U.AV} {ws:O (Nat×U.MC)} {fr:Nat}
def Rel.rebox(h:Rel E Z π σ ρ w){id:Nat}{t:TypeId}{a a':U.AV}(hm:σ.mem id=.box t a)(hc:∀X v,MR X (.box t a) v->MR X (.box t a') v):Rel E Z π (σ.app none .unk [(id,.box t a')]) ρ w:=h.set (v':=undef) (λhh=>by simp_all) (λhh=>by grind) (Ext.refl _ w) (λX' hle hw=>hc X' _ (by have:=h.mem id;rw[hm]at this;exact this.le hle λb _ _=>by rw[hw];rfl)) (λq hq=>by rw[hm];exact hq) λ_ _=>trivial
def e19{c:U.C}(h:f9n c=true):U.lay c=[none]:=by unfold f9n at h;grind
def e5r(hU:UOK U)(h:Rel E Z π σ ρ w){t:TypeId}(hx:AVR (cx Z π σ w) a (ev ρ x))(hev:(f1l P t a).Ev σ m0 m v ws):a48 P E σ ρ w ⟨d,.load t x,ty,ps,af,g⟩ v ws:=by
 unfold f1l at hev;split at hev;case h_2=>exact hev.elim
 rename_i id;have hev:(match σ.mem id with|.box _ (.st _ [.ref j])=>(match b33 P t _ with|true=>Q.done _ []|false=>.fail)|_=>(.fail)).Ev σ _ m v ws:=hev;have hm:=h.mem id;split at hev
 .rename_i t' c j hmem;rw[hmem]at hm;let⟨blk,u,hv,hM,ha⟩:=d51 hm;split at hev;.rename_i hf;obtain⟨hm1,rfl,rfl⟩:=hev;exact c1z hU h (hx.2.1.trans hv) hf ⟨u,ha,hM.ca⟩
  .exact hev.elim
 .exact hev.elim
def e0k(hU:UOK U)(h:Rel E Z π σ ρ w){t:TypeId}(hx:AVR (cx Z π σ w) a (ev ρ x))(hy:AVR (cx Z π σ w) b (ev ρ y))(hev:(e0a P t a b).Ev σ m0 m v ws):a48 P E σ ρ w ⟨d,.store t x y,ty,ps,af,g⟩ v ws:=by
 unfold e0a at hev;split at hev;case h_2=>exact hev.elim
 rename_i id k;have hev:(match σ.mem id with|.box t' (.st c [.ref _])=>(match b33 P t _&&f9n c with|true=>Q.done _ _|false=>.fail)|_=>(.fail)).Ev σ _ m v ws:=hev;split at hev
 .rename_i t' c j hmem;split at hev
  .rename_i hf;simp [qB]at hf;obtain⟨hm1,rfl,rfl⟩:=hev;have h1:=h.rebox hmem λX v hh=>d51 hh;generalize hs1:σ.app _ _ _=σ1 at h1;have hmem1:σ1.mem id=.box t' (.ref j):=by rw[<-hs1];exact b6q
   have hus:∀i,b7a σ i->b7a σ1 i:=λi hi=>by
    unfold b7a;by_cases e:i=id;.rw[e,hmem1];intro hh;cases hh
    .rw[<-hs1,o8,a5o e];exact hi
   have hm:=h1.mem id;rw[hmem1]at hm;let⟨blk,u,hv,hM,ha⟩:=hm;refine a0k.mono (c4j hU h1 (c:=U.c0) hmem1 (.inl rfl) trivial hf.1 rfl rfl ⟨hus k hy.1,hy.2⟩ rfl (by rw[hv];rfl) ?_ (hus id hx.1)) λu w'⟨Z',π',hR⟩=>⟨Z',π',?_⟩;.rw[hx.2.1];show π id=.pointer _;rw[hv];rfl
   .refine(hR.rebox b6q λX v hh=>d4l (by rw[(e19 hf.2)];rfl) rfl hh).congrE (λt=>?_) λi=>?_;.rw[s9,s9,<-hs1,s9];rfl
    .by_cases e:i=id;.rw[e,o8,o8,b6v]
     .rw[o8,o8,a5o e,o8,a5o e,<-hs1,o8,a5o e]
  .exact hev.elim
 .exact hev.elim
def e0s(hU:UOK U)(h:Rel E Z π σ ρ w){t:TypeId}(hev:(e1i P fr t:U.Q).Ev σ m0 m v ws):a48 P E σ ρ w ⟨d,.alloc t,ty,ps,af,g⟩ v ws:=by
 unfold e1i at hev;split at hev;case h_2=>exact hev.elim
 rename_i e cl ht hcl hz;split at hev;case h_2=>exact hev.elim
 rename_i c hc hl;have hev:(match σ.mem fr with|.never=>Q.rdM _ _|_=>(.fail)).Ev σ _ m v ws:=hev;split at hev;case h_2=>exact hev.elim
 rename_i hn;have hev:(match σ.mem _ with|.never=>Q.done _ _|_=>(.fail)).Ev σ _ m v ws:=hev;split at hev;case h_2=>exact hev.elim
 obtain⟨hm1,rfl,rfl⟩:=hev;have hg:a48 P E σ ρ w ⟨d,.alloc t,ty,ps,af,g⟩ (.ref fr) [(fr,.box t (.nils))]:=by
  unfold b7m at hz;split at hz;case h_2=>cases hz
  rename_i i hi;split at hz;case h_2=>cases hz
  rename_i zv hzv;refine b1u h (obj:=.cells zv.cells t) (v':=.pointer (some ⟨w.heap.size,0,none⟩)) hn ?_ (λh=>by cases h) rfl rfl (λb hb=>hb) ?_;.simp[execOp,Instr.alloc,zeroValue,typeInfo,hi,hzv,newVar,newRow]
  .rintro X' hle hw hZ;let⟨u,hu,hr⟩:=c13 hU (X:=X') _ _ _ _ hz;refine⟨w.heap.size,u,rfl,?_,hr⟩;rw[hw,hu];have:=Mb.alloc w t zv.cells.toList;omega
 refine a0k.mono hg λu w'⟨Z',π',hR⟩=>?_;have h2:=hR.rebox b6q λX v hh=>d4l (by rw[(e19 hl)];rfl) rfl hh;have hF:b88 P (fr+1) [{name:= "",type:=t,offset:=0,embedded:=false,tag:= "",pkgPath:= "",byteOffset:=0}] [(.nils)]=([.ref (fr+1)],[(fr+1,.sl e c [])]):=by simp [b88,ht,hc]
 let⟨π2,h3⟩:=h2.openB (P:=P) (k:=fr+1) (fs:=[{name:= "",type:=t,offset:=0,embedded:=false,tag:= "",pkgPath:= "",byteOffset:=0}]) b6q λq hq=>by rw[hF]at hq;obtain rfl:=qF.1 hq;rw[o8,a5o (by simp),o8,a5o (by simp)];omega
 rw[hF]at h3;refine⟨Z',π2,h3.congrE (λs=>?_) λi=>?_⟩;.rw[s9,s9,s9,s9];rfl
 .rw[o8,o8,o8,o8];by_cases e1:i=fr;.subst e1;rw[d3g,if_pos rfl]
  .rw[a5o e1,a5o e1]
def e8k(h:Rel E Z π σ ρ w){t:TypeId}(hx:AVR (cx Z π σ w) a (ev ρ x))(hev:(g39 P fr t a).Ev σ m0 m v ws):a48 P E σ ρ w ⟨d,.box t x,ty,ps,af,g⟩ v ws:=by
 unfold g39 at hev;split at hev;case h_2=>exact hev.elim
 rename_i k cl hcl;split at hev;case h_2=>exact hev.elim
 rename_i hf;simp [qB]at hf;have hev:(match σ.mem fr with|.never=>Q.done _ _|_=>(.fail)).Ev σ _ m v ws:=hev;split at hev;case h_2=>exact hev.elim
 rename_i hn;obtain⟨hm1,rfl,rfl⟩:=hev;have hg:a48 P E σ ρ w ⟨d,.box t x,ty,ps,af,g⟩ (.ref fr) [(fr,.box t (.ref k))]:=by have hf1:=hf.1;unfold b33 at hf1;simp [qB]at hf1;have hx1:=a8m (b1s hf1.1.1) hx;refine b1u h (obj:=.cells (ev ρ x).cells t) (v':=.pointer (some ⟨w.heap.size,0,none⟩)) hn (by simp[execOp,Instr.box,newVar,newRow]) (λh=>by grind) rfl rfl (λb hb=>hb) ?_;rintro X' hle hw hZ;refine⟨w.heap.size,ev ρ x,rfl,?_,hx1.le hle⟩;rw[hw];have:=Mb.alloc w t (ev ρ x).cells.toList;omega
 refine a0k.mono hg λu w'⟨Z',π',hR⟩=>⟨Z',π',?_⟩;refine(hR.rebox b6q λX v hh=>d4l (by rw[(e19 hf.2)];rfl) rfl hh).congrE (λs=>?_) λi=>?_;.rw[s9,s9,s9];rfl
 .by_cases e1:i=fr;.rw[e1,o8,o8,b6v]
  .rw[o8,o8,a5o e1,o8,a5o e1]
def Rel.fzN(h:Rel E Z π σ ρ w)(N:Nat->Prop)(hN:∀b,N b->b<w.heap.size/\(E.Z b\/E.G b\/E.w0.heap.size<=b)/\∀id,¬MB (σ.mem id) (π id) b):Rel E (λb=>Z b\/N b) π σ ρ w:=by have hle:(cx Z π σ w).Le (cx (λb=>Z b\/N b) π σ w):=⟨λb hb=>.inl hb,Ext.refl _ _,λ_ hh=>⟨hh,rfl⟩⟩;refine⟨λt=>AVR.le hle (h.slot t),λid=>MR.le hle (h.mem id) λ_ _ _=>rfl,λid b hb=>?_,h.dist,λb hb=>hb.elim (h.zlt b) λhn=>(hN b hn).1,λb hb=>hb.elim (h.zin b) λhn=>(hN b hn).2.1,λb hb=>.inl (h.zout b hb),h.ext,h.pin,h.tab⟩;let⟨h1,h2,h3⟩:=h.own id b hb;grind
def e0g(hU:UOK U)(h:Rel E Z π σ ρ w){t:TypeId}(hx:AVR (cx Z π σ w) a (ev ρ x))(hy:AVR (cx Z π σ w) b (ev ρ y))(hev:(d96 P t a b).Ev σ m0 m v ws):a48 P E σ ρ w ⟨d,.store t x y,ty,ps,af,g⟩ v ws:=by
 unfold d96 at hev;split at hev;case h_2=>exact hev.elim
 rename_i id k;have hev:(match σ.mem k with|.box _ a=>(match d3q a&&!(Nat.beq id k)&&b33 P t _ with|true=>Q.rdM id _|false=>.fail)|_=>(.fail)).Ev σ _ m v ws:=hev;split at hev;case h_2=>exact hev.elim
 rename_i t2 a0 hk;split at hev;case h_2=>exact hev.elim
 rename_i hc;simp [qB,Bool.not_eq_true']at hc;have hev:(match σ.mem id with|.box t' b0=>(match Nat.beq _ 1&&(b0p b0==false)&&b3a b0 with|true=>Q.done _ _|false=>.fail)|_=>(.fail)).Ev σ _ m v ws:=hev;split at hev;case h_2=>exact hev.elim
 rename_i t' b0 hid;split at hev;case h_2=>exact hev.elim
 rename_i hs;obtain⟨_,rfl,rfl⟩:=hev;have hm:=h.mem k;have hown:=h.own k;rw[hk]at hm hown;let⟨blk,u,hv,hM,ha⟩:=hm;have hmb:∀b,MB (.box t2 a0) (π k) b↔b=blk:=λb=>by rw[hv];exact⟨λhh=>(qH hh).symm,λhh=>by rw[hh];rfl⟩
 have hmk:MB (σ.mem k) (π k) blk:=by rw[hk];exact(hmb blk).2 rfl
 let⟨o1,o2,o3⟩:=hown blk ((hmb blk).2 rfl);have h1:Rel E Z π (σ.app none .unk [(k,.dead)]) ρ w:=h.set (mc:=.dead) (v':=undef) (λhh=>by simp_all) (λhh=>by cases hh) (Ext.refl _ w) (λ_ _ _=>trivial) (λb hb=>hb.elim) λ_ _=>trivial;have h2:=Rel.fzN h1 (λb=>b=blk) λb hb=>by
  subst hb;refine⟨o2,.inr o3,λi hi=>?_⟩;rw[o8]at hi;by_cases e:i=k;.rw[e,b6v]at hi;exact hi
  .rw[a5o e]at hi;exact (h.dist k) i b (Ne.symm e) hmk hi
 generalize hs1:σ.app _ _ _=σ1 at h2;have hus:∀i,b7a σ i->b7a σ1 i:=λi hi=>by
  unfold b7a;by_cases e:i=k;.rw[e,<-hs1,b6q];intro hh;cases hh
  .rw[<-hs1,o8,a5o e];exact hi
 have hmem1:σ1.mem id=.box t' b0:=by rw[<-hs1,o8,a5o (Nat.ne_of_beq_eq_false hc.1.2)];omega
 have hm2:=h2.mem id;rw[hmem1]at hm2;let⟨blk2,u2,hv2,hM2,ha2⟩:=hm2;refine a0k.mono (c4j hU h2 (c:=U.c0) hmem1 (.inl rfl) trivial hc.2 rfl ?_ (by
  refine⟨⟨blk,0,none⟩,u.cells.toList,hy.2.1.trans hv,o2,λhn=>hn (.inr rfl),hM.ca,?_⟩;exact(b4w (.inl (by have:=hc.1.1;cases a0<;>first|rfl|cases this)) ha).weaken λb _ hn hz=>hn (.inl hz)) rfl (by rw[hv2];rfl) ?_ (hus id hx.1)) λu w'⟨Z',π',hR⟩=>⟨Z',π',hR.congrE (λs=>?_) λi=>?_⟩;.exact hs
 .rw[hx.2.1];show π id=.pointer _;rw[hv2];rfl
 .rw[s9,<-hs1,s9];rfl
 .rw[o8,o8];by_cases e1:i=id;.subst e1;rw[d3g,if_pos rfl,b6v]
  .rw[d3g,if_neg (Ne.symm e1),a5o e1,<-hs1,o8]
end
end
section
variable {P:Program} {U:Uni}
variable {E:Env} {Z:Nat -> Prop} {π:Nat -> A5} {σ:U.St} {ρ:Nat -> A5} {w:World}
variable {m0 m:Nat} {a b v:U.AV} {ws:O (Nat×U.MC)} {fr:Nat}
def OKΦ(P:Program)(Φ:Phi U):Prop:=∀f as fe,Φ f as=some fe->c9b P f fe
def d47{α:Type}{a:Array α}{x:α}(h:a.toList=[x]):a=#[x]:=by apply Array.ext';omega
def d44{α:Type}{a:Array α}{x y:α}(h:a.toList=[x,y]):a=#[x,y]:=by apply Array.ext';omega
def c1h(hU:UOK U){Φ:Phi U}(hΦ:OKΦ P Φ)(h:Rel E Z π σ ρ w){o:Oper}(hev:(opQ P Φ fr o.op).Ev σ m0 m v ws):a48 P E σ ρ w o v ws:=by
 let⟨d,op,ty,ps,af,g⟩:=o;cases op<;>try exact hev.elim
 case move x=>exact d5a h (.inl rfl) hev
 case assign x=>exact d5a h (.inr rfl) hev
 case pick c x y=>
  let⟨e,m1,he,hev⟩:=u6 h hev;let⟨p,m2,hp,hev⟩:=u6 h hev;let⟨q,m3,hq,hev⟩:=u6 h hev;unfold g8b at hev;split at hev;.obtain⟨hm,rfl,rfl⟩:=hev;exact f1x h he hp hq
  .exact hev.elim
 case alloc t=>exact e60 hU h hev
 case box t x=>let⟨a,m1,ha,hev⟩:=u6 h hev;exact f7w h ha hev
 case build t psr=>
  let⟨as,m1,has,hev⟩:=c5c h hev;split at hev;.exact e1q hU h has hev
  .exact e6e hU h has hev
 case buildSlice t n psr=>let⟨as,m1,has,hev⟩:=c5c h hev;exact d09 hU h has hev
 case load t x=>let⟨a,m1,ha,hev⟩:=u6 h hev;exact f0k hU h ha hev
 case store t x y=>let⟨a,m1,ha,hev⟩:=u6 h hev;let⟨b,m2,hb,hev⟩:=u6 h hev;exact e4s hU h ha hb hev
 case range t x=>let⟨a,m1,ha,hev⟩:=u6 h hev;exact e5m h ha hev
 case next x b=>
  cases b;.let⟨a,m1,ha,hev⟩:=u6 h hev;exact e66 h ha hev
  .let⟨a,m1,ha,hev⟩:=u6 h hev;exact f2t h ha hev
 case makeInterface t x=>
  let⟨a,m1,ha,hev⟩:=u6 h hev;split at hev;.rename_i e id ht;obtain⟨hm,rfl,rfl⟩:=hev;exact g8 h (by simp[YV,execOp,Instr.makeInterface,underlying,ht]) ⟨_,rfl,ha⟩
  .exact hev.elim
 case nilCheck x=>let⟨a,m1,ha,hev⟩:=u6 h hev;exact f7h h ha hev
 case binOp op t x y t'=>
  let⟨a,m1,ha,hev⟩:=u6 h hev;let⟨b,m2,hb,hev⟩:=u6 h hev;split at hev;.rename_i hv;exact f3p hU h hv ha hb hev
  .exact f7z h ha hb hev
 case unOp op t x=>let⟨a,m1,ha,hev⟩:=u6 h hev;exact g5v h ha hev
 case convert s t x=>
  let⟨a,m1,ha,hev⟩:=u6 h hev;split at hev;.rename_i hb;exact f3o hU h hb ha hev
  .exact e9j h ha hev
 case makeFunc fn first cs=>
  simp [opQ]at hev;split at hev
  .have:first=#[]:=by simp_all
   subst this;exact d43 h hev
  .rename_i f x0 hf;split at hev
   .have e1:first=#[x0]:=by apply Array.ext';omega
    have e2:cs=#[]:=by simp_all
    subst e1;subst e2;let⟨a,m1,ha,hev⟩:=u6 h hev;split at hev;.obtain⟨hm,rfl,rfl⟩:=hev;exact g8 h (by simp[YV,execOp,Instr.makeFunc]) ⟨ev ρ x0,rfl,ha⟩
    .exact hev.elim
   .exact hev.elim
  .exact hev.elim
 case slice t x lo hi mx=>cases mx with
  |some mx=>cases hi with|none=>exact hev.elim|some hi=>let⟨a,m1,ha,hev⟩:=u6 h hev;exact d9t hU h ha hev
  |none=>let⟨a,m1,ha,hev⟩:=u6 h hev;exact e57 hU h ha hev
 case makeSlice t x y=>let⟨a,m1,ha,hev⟩:=u6 h hev;let⟨b,m2,hb,hev⟩:=u6 h hev;exact d0y hU h ha hb hev
 case makeMap t r=>cases r with|some _=>exact hev.elim|none=>exact d7x h hev
 case lookup t x y ok=>let⟨a,m1,ha,hev⟩:=u6 h hev;let⟨b,m2,hb,hev⟩:=u6 h hev;exact e1x h ha hb hev
 case mapUpdate t x y z=>let⟨a,m1,ha,hev⟩:=u6 h hev;let⟨b,m2,hb,hev⟩:=u6 h hev;let⟨c,m3,hc,hev⟩:=u6 h hev;exact d12 h ha hb hc hev
 case fieldAddr s x f=>
  let⟨a,m1,ha,hev⟩:=u6 h hev;split at hev;.exact d98 h ha hev
  .exact e5z hU h ha hev
 case field s x f=>let⟨a,m1,ha,hev⟩:=u6 h hev;exact e5u hU h ha hev
 case indexAddr t x y=>let⟨a,m1,ha,hev⟩:=u6 h hev;let⟨b,m2,hb,hev⟩:=u6 h hev;exact d11 hU h ha hb hev
 case index t x y=>let⟨a,m1,ha,hev⟩:=u6 h hev;let⟨b,m2,hb,hev⟩:=u6 h hev;exact e4h hU h ha hb hev
 case extract x i=>let⟨a,m1,ha,hev⟩:=u6 h hev;exact d5k h ha hev
 case call c=>
  let⟨cal,args,tys⟩:=c
  cases cal with|invoke _ _=>exact hev.elim|value x=>
    let⟨a,m1,ha,hev⟩:=u6 h hev;split at hev;.let⟨vs,hv,hcs⟩:=ha;let⟨as,m2,has,hev⟩:=c5c h hev;exact d6c hU hΦ h hv hcs has hev
    .rename_i f c y;let⟨r,hv,hr⟩:=ha;let⟨as,m2,has,hev⟩:=c5c h hev;exact d6c (cs:=[]) (as:=.val c y::as) hU hΦ h hv trivial ⟨AVR.of1 hr,has⟩ (by rw[append_nil];omega)
    .exact hev.elim|builtin bi=>
    cases bi<;>try exact hev.elim
    case append=>
     simp [opQ]at hev;split at hev
     .rename_i x y t t' hx ht;split at hev;.rename_i hb;have:=qC hb;subst this;let⟨a,m1,ha,hev⟩:=u6 h hev;let⟨b,m2,hb,hev⟩:=u6 h hev;rw[d44 hx,d44 ht];exact f6j hU h ha hb hev
      .exact hev.elim
     .exact hev.elim
    case clear=>
     simp [opQ]at hev;split at hev;.rename_i x t hx ht;let⟨a,m1,ha,hev⟩:=u6 h hev;rw[d47 hx,d47 ht];exact e6s hU h ha hev
     .exact hev.elim
    case len=>
     simp [opQ]at hev;split at hev;.rename_i x t hx ht;let⟨a,m1,ha,hev⟩:=u6 h hev;rw[d47 hx,d47 ht];exact f7e h ha hev
     .exact hev.elim
    case max=>
     simp [opQ]at hev;split at hev;.rename_i x y hx;let⟨a,m1,ha,hev⟩:=u6 h hev;let⟨b,m2,hb,hev⟩:=u6 h hev;rw[d44 hx];exact e9w h ha hb hev
     .exact hev.elim
    case min=>
     simp [opQ]at hev;split at hev;.rename_i x y hx;let⟨a,m1,ha,hev⟩:=u6 h hev;let⟨b,m2,hb,hev⟩:=u6 h hev;rw[d44 hx];exact e9w h ha hb hev
     .exact hev.elim
def f3z(hU:UOK U){Φ:Phi U}(hΦ:OKΦ P Φ)(h:Rel E Z π σ ρ w){o:Oper}{sp:O Nat}{i:Nat}(hev:(opX P Φ sp i fr o.op).Ev σ m0 m v ws):a48 P E σ ρ w o v ws:=by
 unfold opX at hev;split at hev;.exact c1h hU hΦ h hev
 .split at hev
  .rename_i t x lo hi hop;let⟨d,op,ty,ps,af,g⟩:=o;subst hop;split at hev;.let⟨a,m1,ha,hev⟩:=u6 h hev;exact f1w h ha hev
   .let⟨a,m1,ha,hev⟩:=u6 h hev;exact e84 h ha hev
   .exact c1h hU hΦ h hev
  .rename_i t x y hop;let⟨d,op,ty,ps,af,g⟩:=o;subst hop;split at hev;.let⟨a,m1,ha,hev⟩:=u6 h hev;let⟨b,m2,hb,hev⟩:=u6 h hev;exact e04 hU h ha hb hev
   .split at hev;.let⟨a,m1,ha,hev⟩:=u6 h hev;let⟨b,m2,hb,hev⟩:=u6 h hev;exact e0k hU h ha hb hev
    .split at hev;.let⟨a,m1,ha,hev⟩:=u6 h hev;let⟨b,m2,hb,hev⟩:=u6 h hev;exact e0g hU h ha hb hev
     .exact c1h hU hΦ h hev
  .rename_i t x hop;let⟨d,op,ty,ps,af,g⟩:=o;subst hop;split at hev;.let⟨a,m1,ha,hev⟩:=u6 h hev;exact e6h hU h ha hev
   .split at hev;.let⟨a,m1,ha,hev⟩:=u6 h hev;exact e5r hU h ha hev
    .exact c1h hU hΦ h hev
  .rename_i t hop;let⟨d,op,ty,ps,af,g⟩:=o;subst hop;split at hev;.exact e0s hU h hev
   .exact c1h hU hΦ h hev
  .rename_i t x hop;let⟨d,op,ty,ps,af,g⟩:=o;subst hop;split at hev;.let⟨a,m1,ha,hev⟩:=u6 h hev;exact e8k h ha hev
   .exact c1h hU hΦ h hev
  .exact c1h hU hΦ h hev
def g7t(σ σ':U.St)(m:Nat):Prop:=(∀t,m.testBit (2*t)=true->σ'.slot t=σ.slot t)/\∀id,m.testBit (2*id+1)=true->σ'.mem id=σ.mem id
def e73{q:U.Q}:∀{m0 m:Nat}{v:U.AV}{ws:O (Nat×U.MC)},q.Ev σ m0 m v ws->∀i,m0.testBit i=true->m.testBit i=true:=by induction q with
 |rdT t k ih=>intro m0 m v ws h i hi;exact ih _ h.2 i (by simp_all)|rdM id k ih=>intro m0 m v ws h i hi;exact ih _ h i (by simp_all)|opt o k ih=>intro m0 m v ws h i hi;let⟨b,_,h⟩:=h;grind|cas o n k ih0 ih=>
   intro m0 m v ws h i hi;rcases h with⟨_,h⟩|⟨b,_,h⟩;.grind
   grind|done v' ws'=>intro m0 m v ws h i hi;rw[h.1];omega|fail=>intro m0 m v ws h;exact h.elim
def e3u{σ':U.St}{q:U.Q}:∀{m0 m:Nat}{v:U.AV}{ws:O (Nat×U.MC)},q.Ev σ m0 m v ws->g7t σ σ' m->q.Ev σ' m0 m v ws:=by
 induction q with|rdT t k ih=>intro m0 m v ws h ha;have hb:=e73 h.2 (2*t) (by simp_all);have e:=ha.1 t hb;refine⟨by rw[e];exact h.1,?_⟩;rw[e];exact ih _ h.2 ha|rdM id k ih=>intro m0 m v ws h ha;have h:(k _).Ev σ _ m v ws:=h;have hb:=e73 h (2*id+1) (by simp_all);have e:=ha.2 id hb;show(k _).Ev σ' _ m v ws;simp_all|opt o k ih=>intro m0 m v ws h ha;let⟨b,hb,h⟩:=h;exact⟨b,hb,ih b h ha⟩|cas o n k ih0 ih=>
   intro m0 m v ws h ha;rcases h with⟨hb,h⟩|⟨b,hb,h⟩;.exact .inl ⟨hb,ih0 h ha⟩
   .exact .inr ⟨b,hb,ih b h ha⟩|done v' ws'=>intro m0 m v ws h ha;exact h|fail=>intro m0 m v ws h;exact h.elim
def c8x{R:Type}{q:U.Q}:∀{m0:Nat}{K:Nat->U.AV->O (Nat×U.MC)->A3 R}{r:R},q.eval σ m0 K=some r->∃m v ws,q.Ev σ m0 m v ws/\K m v ws=some r:=by induction q with
 |rdT t k ih=>intro m0 K r h;simp [Q.eval]at h;cases hs:σ.slot t<;>rw[hs]at h<;>first|(cases h)|(let⟨m,v,ws,h1,h2⟩:=ih _ h;exact⟨m,v,ws,⟨(by simp_all),(by simp_all)⟩,h2⟩)
 |rdM id k ih=>intro m0 K r h;exact ih _ h|opt o k ih=>intro m0 K r h;let⟨b,hb,h⟩:=g7a (show o.bind _=some r from h);let⟨m,v,ws,h1,h2⟩:=ih b h;exact⟨m,v,ws,⟨b,hb,h1⟩,h2⟩|cas o n k ih0 ih=>intro m0 K r h;cases ho:o with|none=>rw[ho]at h;let⟨m,v,ws,h1,h2⟩:=ih0 h;exact⟨m,v,ws,.inl ⟨rfl,h1⟩,h2⟩|some b=>rw[ho]at h;let⟨m,v,ws,h1,h2⟩:=ih b h;exact⟨m,v,ws,.inr ⟨b,rfl,h1⟩,h2⟩
 |done v ws=>intro m0 K r h;exact⟨m0,v,ws,⟨rfl,rfl,rfl⟩,h⟩|fail=>intro m0 K r h;cases h
end
section
variable {P:Program} {U:Uni} {Φ:Phi U}
structure En(U:Uni)where
 d:A3 Tmp
 m:Nat
 v:U.AV
 ws:O (Nat×U.MC)
def c88(P:Program)(Φ:Phi U)(C:RegC)(i:Nat)(o:Oper)(σ:U.St)(e:En U):Prop:=e.d=o.dst/\((gq C.ops o (opX P Φ C.sp i (C.base+16*i) o.op)).Ev σ 0 e.m e.v e.ws\/(gq C.ops o (f8p o.op)).Ev σ 0 e.m e.v e.ws)
def Tr(P:Program)(Φ:Phi U)(C:RegC):Nat->O Oper->U.St->O (En U)->U.St->Prop|_,[],σ,[],σ'=>σ'=σ|k,o::os,σ,e::es,σ'=>c88 P Φ C k o σ e/\Tr P Φ C (k+1) os (σ.app e.d e.v e.ws) es σ'|_,_,_,_,_=>False
def Tr.append{C:RegC}:∀{k:Nat}{os os':O Oper}{σ σ1 σ2:U.St}{es es':O (En U)},Tr P Φ C k os σ es σ1->Tr P Φ C (k+os.length) os' σ1 es' σ2->Tr P Φ C k (os++os') σ (es++es') σ2|k,[],os',σ,σ1,σ2,[],es',h,h'=>by have h:σ1=σ:=h;simp_all|k,o::os,os',σ,σ1,σ2,e::es,es',h,h'=>⟨h.1,Tr.append h.2 (by grind)⟩|_,[],_,_,_,_,_::_,_,h,_=>h.elim|_,_::_,_,_,_,_,[],_,h,_=>h.elim
def Tr.len{C:RegC}:∀{k:Nat}{os:O Oper}{σ σ1:U.St}{es:O (En U)},Tr P Φ C k os σ es σ1->es.length=os.length|k,[],σ,σ1,[],h=>rfl|k,o::os,σ,σ1,e::es,h=>by simp[Tr.len h.2]|_,[],_,_,_::_,h=>h.elim|_,_::_,_,_,[],h=>h.elim
def e6v(σ σ':U.St):Prop:=(∀t,σ.slot t=.unk\/σ'.slot t=σ.slot t)/\∀id,σ'.mem id=σ.mem id
def e6v.app{σ σ':U.St}(h:e6v σ σ')(d:A3 Tmp)(v:U.AV)(ws:O (Nat×U.MC)):e6v (σ.app d v ws) (σ'.app d v ws):=by
 refine⟨λt=>?_,λid=>?_⟩
 .rw[s9,s9];split;.simp_all
  .exact h.1 t
 .rw[o8,o8,h.2 id]
def e6v.ev{σ σ':U.St}(h:e6v σ σ'){q:U.Q}:∀{m0 m:Nat}{v:U.AV}{ws:O (Nat×U.MC)},q.Ev σ m0 m v ws->q.Ev σ' m0 m v ws:=by
 induction q with|rdT t k ih=>intro m0 m v ws hh;have e:=(h.1 t).resolve_left hh.1;exact⟨(by rw[e];exact hh.1),(by rw[e];exact ih _ hh.2)⟩|rdM id k ih=>intro m0 m v ws hh;show(k _).Ev σ' _ m v ws;rw[h.2 id];exact ih _ hh|opt o k ih=>intro m0 m v ws hh;let⟨b,hb,hh⟩:=hh;exact⟨b,hb,ih b hh⟩|cas o n k ih0 ih=>
   intro m0 m v ws hh;rcases hh with⟨hb,hh⟩|⟨b,hb,hh⟩;.exact .inl ⟨hb,ih0 hh⟩
   .exact .inr ⟨b,hb,ih b hh⟩|done v' ws'=>intro m0 m v ws hh;exact hh|fail=>intro m0 m v ws hh;exact hh.elim
def f2q{σ:U.St}{q:U.Q}(x:Nat):∀{m0 m:Nat}{v:U.AV}{ws:O (Nat×U.MC)},q.Ev σ m0 m v ws->q.Ev σ (x|||m0) (x|||m) v ws:=by
 induction q with|rdT t k ih=>intro m0 m v ws hh;refine⟨hh.1,?_⟩;have:=ih _ hh.2;grind|rdM id k ih=>intro m0 m v ws hh;have:=ih _ (show(k _).Ev σ _ m v ws from hh);rw[<-Nat.or_assoc]at this;exact this|opt o k ih=>intro m0 m v ws hh;let⟨b,hb,hh⟩:=hh;exact⟨b,hb,ih b hh⟩|cas o n k ih0 ih=>
   intro m0 m v ws hh;rcases hh with⟨hb,hh⟩|⟨b,hb,hh⟩;.exact .inl ⟨hb,ih0 hh⟩
   .exact .inr ⟨b,hb,ih b hh⟩|done v' ws'=>intro m0 m v ws hh;exact⟨by rw[hh.1],hh.2⟩|fail=>intro m0 m v ws hh;exact hh.elim
def Sub(m s:Nat):Prop:=∀i,m.testBit i=true->s.testBit i=true
def e91{m s:Nat}(h:h38 m s=true):Sub m s:=by intro i hi;have:=qC h;grind
def c2k(C:RegC)(ctx:O (Nat×Bool))(σ:U.St):Prop:=∀q∈ctx,∃t,c5h C.ops q.1=some t/\σ.slot t=.bool q.2
def c2k.app{C:RegC}{ctx:O (Nat×Bool)}{σ:U.St}(h:c2k C ctx σ){d:A3 Tmp}{v:U.AV}{ws:O (Nat×U.MC)}(hk:d7z C ctx d=true):c2k C ctx (σ.app d v ws):=by
 intro q hq;let⟨t,ht,hs⟩:=h q hq;refine⟨t,ht,?_⟩;rw[s9];split;.rename_i hd;subst hd;have:=qX.1 hk q hq;simp_all
 omega
def h1t(e:En U)(w:Nat):Prop:=(∀d,e.d=some d->w.testBit (2*d)=true)/\∀id m,lk id e.ws=some m->w.testBit (2*id+1)=true
def f2z(C:RegC)(ctx:O (Nat×Bool))(k:Nat)(os:O Oper)(es:O (En U))(hist hist':O (Nat×Nat×Nat)):Prop:=match ctx with|[]=>∃lg:O (Nat×Nat×Nat),hist'=lg.reverse++hist/\(C.draw=true->b6z C lg hist=true)/\lg.length=es.length/\∀(j:Nat)(e:En U)(g:Nat×Nat×Nat),es[j]?=some e->lg[j]?=some g->g.1=k+j/\Sub e.m g.2.1/\h1t e g.2.2|_::_=>hist'=hist/\∀(j:Nat)(e:En U)(o:Oper),es[j]?=some e->os[j]?=some o->e.ws=[]/\Sub e.m (b9d C.ops o C.lim)
def c56{C:RegC}:∀(a b hist:O (Nat×Nat×Nat)),b6z C a hist=true->b6z C b (a.reverse++hist)=true->b6z C (a++b) hist=true|[],b,hist,_,h=>by simp_all|e::a,b,hist,h,h'=>by simp [b6z,qB]at h;simp [cons_append,b6z,qB];exact⟨h.1,c56 a b _ h.2 (by simp_all)⟩
def p5{α:Type}{l r:O α}{j:Nat}{a:α}(h:(l++r)[j]?=some a):(j<l.length/\l[j]?=some a)\/(l.length<=j/\r[j-l.length]?=some a):=by
 rcases Nat.lt_or_ge j _ with hj|hj;.rw[getElem?_append_left hj]at h;simp_all
 grind
def f2z.append{C:RegC}{ctx:O (Nat×Bool)}{k:Nat}{os os':O Oper}{es es':O (En U)}{h0 h1 h2:O (Nat×Nat×Nat)}(hl:es.length=os.length)(h:f2z C ctx k os es h0 h1)(h':f2z C ctx (k+os.length) os' es' h1 h2):f2z C ctx k (os++os') (es++es') h0 h2:=by
 cases ctx with|nil=>
   let⟨lg,e1,e2,e3,e4⟩:=h;let⟨lg',f1,f2,f3,f4⟩:=h';refine⟨lg++lg',by rw[f1,e1];simp,λhd=>c56 _ _ _ (e2 hd) (by rw[<-e1];exact f2 hd),by simp[e3,f3],λj e g he hg=>?_⟩;rcases p5 he with⟨hj,he⟩|⟨hj,he⟩
   .rcases p5 hg with⟨hj',hg⟩|⟨hj',hg⟩;.exact e4 j e g he hg
    omega
   .rcases p5 hg with⟨hj',hg⟩|⟨hj',hg⟩;.omega
    .rw[e3]at hg;let⟨g1,g2,g3⟩:=f4 _ e g he hg;exact⟨by omega,g2,g3⟩|cons c ctx=>
   refine⟨h'.1.trans h.1,λj e o he ho=>?_⟩;rcases p5 he with⟨hj,he⟩|⟨hj,he⟩
   .rcases p5 ho with⟨hj',ho⟩|⟨hj',ho⟩;.exact h.2 j e o he ho
    omega
   .rcases p5 ho with⟨hj',ho⟩|⟨hj',ho⟩;.omega
    .rw[hl]at he;exact h'.2 _ e o he ho
def f7u{l:O Nat}{k:Nat}(h:k∈l):(bits l).testBit k=true:=by
 have key:∀(l:O Nat)(m:Nat),(m.testBit k=true\/k∈l)->(l.foldl (λm k=>m|||2^k) m).testBit k=true:=by intro l;induction l with|nil=>simp_all|cons x l ih=>grind
 exact key l 0 (.inr h)
def d2z{ops:O Oper}{o:Oper}{b t:Nat}(h:t∈f5i o):(b9d ops o b).testBit (2*t)=true:=by unfold b9d;rw[Nat.testBit_or,Nat.testBit_or,f7u (mem_map_of_mem h)];rfl
def b9p{ops:O Oper}{o:Oper}{b g t:Nat}{w:Bool}(h:o.guard=some (g,w))(ht:c5h ops g=some t):(b9d ops o b).testBit (2*t)=true:=by unfold b9d;simp_all
def d2y:∀(os:O Oper)(k:Nat)(p:Nat×Oper->Bool),∃os1 os2,os=os1++os2/\(b34 k os).takeWhile p=b34 k os1/\(b34 k os).dropWhile p=b34 (k+os1.length) os2/\∀q∈b34 k os1,p q=true|[],k,p=>⟨[],[],rfl,rfl,rfl,λq h=>by cases h⟩|o::os,k,p=>by cases hp:p (k,o)with|false=>exact⟨[],o::os,rfl,by simp[b34,hp],by simp[b34,hp],λq h=>by cases h⟩|true=>
     let⟨os1,os2,h1,h2,h3,h4⟩:=d2y os (k+1) p;refine⟨o::os1,os2,by simp_all,by simp[b34,hp,h2],?_,λq h=>?_⟩;.simp [b34,dropWhile_cons,hp,if_true,h3,qR];grind
     .rcases qO.1 h with h|h;all_goals simp_all
def c7r:∀(os:O Oper)(k j:Nat)(o:Oper),os[j]?=some o->(b34 k os)[j]?=some (k+j,o)|[],k,j,o,h=>by grind|x::os,k,0,o,h=>by simp at h;subst h;rfl|x::os,k,j+1,o,h=>by have:=c7r os (k+1) j o (by simp_all);simp [b34,getElem?_cons_succ,this,show k+1+j=k+(j+1)by omega]
def e49:∀{os:O Oper}{k:Nat}{q:Nat×Oper},q∈b34 k os->∃j,q.1=k+j/\os[j]?=some q.2
 |[],k,q,h=>by cases h|x::os,k,q,h=>by
   rcases qO.1 h with h|h;.simp_all
   .let⟨j,h1,h2⟩:=e49 h;exact⟨j+1,by omega,by simp_all⟩
def c37:∀(l:O (Nat×Oper))(σ:U.St)(t:Nat),((b4l σ l).slot t=.unk)\/((b4l σ l).slot t=σ.slot t/\∀q∈l,q.2.dst≠some t)
 |[],σ,t=>.inr ⟨rfl,λq h=>by grind⟩|q::l,σ,t=>by
   rcases c37 l _ t with h|⟨h,h'⟩;.exact .inl h
   .have e:(σ.put _ _).slot t=if q.2.dst=some t then .unk else σ.slot t:=s9 σ _ _ [] t;have h:(b4l σ (q::l)).slot t=(σ.put _ _).slot t:=h;grind
def c8z:∀(l:O (Nat×Oper))(σ:U.St)(t:Nat),(∀q∈l,q.2.dst≠some t)->(b4l σ l).slot t=σ.slot t|[],σ,t,_=>rfl|q::l,σ,t,h=>by have h1:=c8z l (σ.put q.2.dst .unk) t λq' hq'=>h q' (qJ _ hq');have e:=s9 σ q.2.dst .unk [] t;rw[if_neg (h q qI)]at e;exact h1.trans e
def c69:∀(l:O (Nat×Oper))(σ:U.St)(id:Nat),(b4l σ l).mem id=σ.mem id|[],σ,id=>rfl|q::l,σ,id=>by have h:=c69 l (σ.put q.2.dst .unk) id;have e:(σ.put q.2.dst _).mem id=σ.mem id:=o8 σ _ .unk [] id;rw[e]at h;exact h
def e0p{C:RegC}:∀{k:Nat}{os:O Oper}{σ σ1:U.St}{es:O (En U)},Tr P Φ C k os σ es σ1->(∀e∈es,e.ws=[])->(∀id,σ1.mem id=σ.mem id)/\∀t,(∀o∈os,o.dst≠some t)->σ1.slot t=σ.slot t
 |k,[],σ,σ1,[],h,_=>by have h:σ1=σ:=h;simp_all|k,o::os,σ,σ1,e::es,h,hw=>by
   let⟨h1,h2⟩:=e0p h.2 λe he=>hw e (qJ _ he);refine⟨λid=>?_,λt ht=>?_⟩;.rw[h1 id,o8,(hw e qI)];rfl
   .rw[h2 t λo ho=>ht o (qJ _ ho),s9];rw[h.1.1];grind|_,[],_,_,_::_,h,_=>h.elim|_,_::_,_,_,[],h,_=>h.elim
def d1u{σ σ':U.St}(h:e6v σ σ'){x:Operand}{b:Bool}(hb:c0g σ x=some b):c0g σ' x=some b:=by
 unfold c0g at hb⊢;split at hb;.omega
 .rename_i t;split at hb;.have:=(h.1 t).resolve_left (by simp_all);simp_all
  simp_all
 omega
def opM:Operand->Nat|.tmp t=>2^(2*t)|_=>0
def c5p{σ:U.St}{t:Nat}{e:Bool}(h:σ.slot t=.bool e):σ.slot t≠.unk:=by simp_all
def f6y{σ:U.St}{t:Nat}(h:σ.slot t=.undef):σ.slot t≠.unk:=by simp_all
def f5o{σ:U.St}{x:Operand}{b:Bool}(hb:c0g σ x=some b)(m:Nat):(rdO x λy=>(.done y []:U.Q)).Ev σ m (m|||opM x) (.bool b) []:=by cases x with
 |tmp t=>
   simp [c0g]at hb;split at hb;.rename_i b' hs;cases hb;exact⟨c5p hs,rfl,hs.symm,rfl⟩
   simp_all|const c=>
   cases c<;>try cases hb
   exact⟨by simp[opM],rfl,rfl⟩|global g=>cases hb|func f=>cases hb
def f01{C:RegC}{ctx:O (Nat×Bool)}{σ:U.St}{q:Nat×Oper}{d t:Tmp}{x y:Operand}{e c:Bool}(hp:d8e q=some (d,t,x,y))(hg:okG ctx q.2=true)(hctx:c2k C ctx σ)(hs:σ.slot t=.bool e)(hb:c0g σ (if e=true then x else y)=some c):∃m,c88 P Φ C q.1 q.2 σ ⟨some d,m,.bool c,[]⟩/\Sub m (b9d C.ops q.2 C.lim):=by
 unfold d8e at hp;split at hp
 .rename_i d0 t0 x0 y0 hd ho;cases hp;have hev:(f8p q.2.op).Ev σ 0 (2^(2*t)|||(opM (if e=true then x else y))) (.bool c) []:=by rw[ho];refine⟨c5p hs,?_⟩;have:=f5o hb (0|||2^(2*t));cases e;all_goals simp_all
  have hsub:Sub (2^(2*t)|||(opM (if e=true then x else y))) (b9d C.ops q.2 C.lim):=by
   have hop:f5i q.2=([.tmp t,x,y]).filterMap λ|.tmp t=>some t|_=>none:=by unfold f5i;rw[ho];rfl
   intro i hi;rw[Nat.testBit_or,Nat.testBit_two_pow]at hi;simp [Bool.or_eq_true,decide_eq_true_eq]at hi;rcases hi with hi|hi;.rw[<-hi];exact d2z (by rw[hop];simp)
   .unfold opM at hi;split at hi;.rename_i tt htt;rw[Nat.testBit_two_pow]at hi;simp [decide_eq_true_eq]at hi;rw[<-hi];refine d2z ?_;rw[hop];split at htt<;>simp[htt]
    .simp at hi
  cases hgd:q.2.guard with|none=>exact⟨_,⟨hd.symm,.inr (by unfold gq;simp_all)⟩,hsub⟩|some gw=>
    unfold okG at hg;rw[hgd]at hg;let⟨cq,hcq,hc2⟩:=List.any_eq_true.1 hg;simp only[qB,beq_iff_eq]at hc2;let⟨tg,htg,hsg⟩:=hctx cq hcq;rw[qC hc2.1]at htg;refine⟨2^(2*tg)|||(2^(2*t)|||(opM (if e=true then x else y))),⟨hd.symm,.inr ?_⟩,?_⟩;.unfold gq;rw[hgd];simp [htg];refine⟨c5p hsg,?_⟩;have:=f2q (2^(2*tg)) hev;simp_all
    .intro i hi;rw[Nat.testBit_or,Nat.testBit_two_pow]at hi;simp only[Bool.or_eq_true,decide_eq_true_eq]at hi;rcases hi with hi|hi;.rw[<-hi];exact b9p hgd htg
     .exact hsub i hi
 simp_all
def f1b{C:RegC}{k g t:Nat}{want e:Bool}(hg:c5h C.ops g=some t)(hne:e≠want):∀(os:O Oper)(j0:Nat)(σ:U.St),k<=j0->σ.slot t=.bool e->(∀g',k<=g'->g'<j0->∃t',c5h C.ops g'=some t'/\σ.slot t'=.undef)->(∀j o,os[j]?=some o->C.ops[j0+j]?=some o)->(∀q∈b34 j0 os,c2v g want k q=true)->f7n t (b34 j0 os)=true->∃es σ',Tr P Φ C j0 os σ es σ'/\(∀e∈es,e.ws=[])/\(∀(j:Nat)(e:En U)(o:Oper),es[j]?=some e->os[j]?=some o->Sub e.m (b9d C.ops o C.lim))/\σ'.slot t=.bool e
 |[],j0,σ,_,hs,_,_,_,_=>⟨[],σ,rfl,(λe h=>by grind),(λj e o h=>by grind),hs⟩|o::os,j0,σ,hk,hs,hu,hops,hin,hseg=>by
   have hin0:=hin _ qI;unfold c2v at hin0;have hseg0:∃d,o.dst=some d/\d≠t:=by have:=qX.1 hseg _ qI;cases hd:o.dst with|none=>grind|some d=>rw[hd]at this;refine⟨d,rfl,λhe=>?_⟩;rw[he]at this;simp at this
   let⟨d,hd,hdt⟩:=hseg0;cases hgd:o.guard with|none=>simp_all|some gw=>
     let⟨g',w'⟩:=gw;rw[hgd]at hin0;simp only[Bool.or_eq_true,qB,beq_iff_eq]at hin0;have hstep:∃m,(∀q,(gq C.ops o q).Ev σ 0 m .undef [])/\Sub m (b9d C.ops o C.lim):=by
      rcases hin0 with⟨h1,h2⟩|⟨h1,h2⟩
      .have h1:=qC h1;subst h1;refine⟨0|||2^(2*t),λq=>?_,λi hi=>?_⟩
       .unfold gq;rw[hgd];simp [hg];refine⟨c5p hs,?_⟩;rw[hs,h2];have:(e==want)=false:=by simp_all
        simp [this];exact⟨rfl,rfl,rfl⟩
       .rw[Nat.zero_or,Nat.testBit_two_pow]at hi;simp [decide_eq_true_eq]at hi;rw[<-hi];exact b9p hgd hg
      .have h1:=qW h1;have h2:g'<j0:=by simp_all
       let⟨t',ht',hs'⟩:=hu g' h1 h2;refine⟨0|||2^(2*t'),λq=>?_,λi hi=>?_⟩;.unfold gq;rw[hgd];simp only[ht'];refine⟨f6y hs',?_⟩;rw[hs'];exact⟨rfl,rfl,rfl⟩
       .rw[Nat.zero_or,Nat.testBit_two_pow]at hi;simp [decide_eq_true_eq]at hi;rw[<-hi];exact b9p hgd ht'
     let⟨m,hm,hsub⟩:=hstep;have hops0:=by simpa using hops 0 o rfl
     let⟨es,σ',h1,h2,h3,h4⟩:=f1b hg hne os _ (σ.app o.dst .undef []) (by omega) (by rw[s9,if_neg (by grind)];omega) (λg' hg1 hg2=>by
       rcases Nat.lt_or_ge g' j0 with hlt|hge
       .let⟨t',ht',hs'⟩:=hu g' hg1 hlt;refine⟨t',ht',?_⟩;rw[s9];split;.rfl
        omega
       .have:g'=j0:=by omega
        subst this;refine⟨d,by unfold c5h;rw[hops0];omega,?_⟩;rw[s9,if_pos hd]) (λj o' ho'=>by have:=hops (j+1) o' (by simpa using ho');grind) (λq hq=>hin q (qJ _ hq)) (by have:=hseg;unfold f7n at this⊢;rw[b34,all_cons,qB]at this;exact this.2);refine⟨⟨o.dst,m,.undef,[]⟩::es,σ',⟨⟨rfl,.inl (hm _)⟩,h1⟩,λe he=>?_,λj e o' he ho'=>?_,h4⟩
     .rcases qO.1 he with he|he;.rw[he]
      .exact h2 e he
     .cases j with|zero=>simp at he ho';subst he;subst ho';omega|succ j=>exact h3 j e o' (by simpa using he) (by simpa using ho')
end
section
variable {P:Program} {U:Uni} {Φ:Phi U}
def c20{o:Oper}{ws:O (Nat×U.MC)}:(∀d,o.dst=some d->(c2s o ws).testBit (2*d)=true)/\∀id m,lk id ws=some m->(c2s o ws).testBit (2*id+1)=true:=by
 have key:∀(ws:O (Nat×U.MC))(m k:Nat),(m.testBit k=true\/∃w∈ws,2*w.1+1=k)->(ws.foldl (λm w=>m|||2^(2*w.1+1)) m).testBit k=true:=by intro ws;induction ws with|nil=>simp_all|cons w ws ih=>
    intro m k h;refine ih _ k ?_;rcases h with h|⟨w',hw',h⟩;.grind
    .rcases qO.1 hw' with e|e;.grind
     .exact .inr ⟨w',e,h⟩
 refine⟨λd hd=>key ws _ _ (.inl ?_),λid m hl=>key ws _ _ (.inr ⟨_,b1x hl,rfl⟩)⟩;unfold g8r;rw[hd];simp
def f0i{o:Oper}{d:Nat}(hd:o.dst=some d):(g8r o).testBit (2*d)=true:=by unfold g8r;simp_all
def c55(P:Program)(Φ:Phi U)(C:RegC){R:Type}(k:Nat)(os:O Oper)(ctx:O (Nat×Bool))(hist:O (Nat×Nat×Nat))(σ0 σx:U.St)(K:O (Nat×Nat×Nat)->U.St->A3 R)(r:R):Prop:=∃es σx' σe' hist',Tr P Φ C k os σx es σx'/\e6v σe' σx'/\c2k C ctx σx'/\K hist' σe'=some r/\f2z C ctx k os es hist hist'/\∀t,(∀o∈os,o.dst≠some t)->σe'.slot t=σ0.slot t
def c55.cons{C:RegC}{R:Type}{k:Nat}{o:Oper}{os:O Oper}{ctx:O (Nat×Bool)}{h0 h1:O (Nat×Nat×Nat)}{σ0 σx:U.St}{v0:U.AV}{w0:O (Nat×U.MC)}{K:O (Nat×Nat×Nat)->U.St->A3 R}{r:R}{e:En U}(hs:c88 P Φ C k o σx e)(hl:f2z C ctx k [o] [e] h0 h1)(h:c55 P Φ C (k+1) os ctx h1 (σ0.app o.dst v0 w0) (σx.app e.d e.v e.ws) K r):c55 P Φ C k (o::os) ctx h0 σ0 σx K r:=by let⟨es,σx',σe',hist',g1,g2,g3,g4,g5,g6⟩:=h;refine⟨e::es,σx',σe',hist',⟨hs,g1⟩,g2,g3,g4,f2z.append rfl hl g5,λt ht=>?_⟩;rw[g6 t λo' ho'=>ht o' (qJ _ ho'),s9,if_neg (ht o qI)]
def c55.append{C:RegC}{R:Type}{k:Nat}{os os':O Oper}{ctx:O (Nat×Bool)}{h0 h1:O (Nat×Nat×Nat)}{σ0 σ2 σx σ1:U.St}{K:O (Nat×Nat×Nat)->U.St->A3 R}{r:R}{es:O (En U)}(ht:Tr P Φ C k os σx es σ1)(hl:f2z C ctx k os es h0 h1)(hk:∀t,(∀o∈os,o.dst≠some t)->σ2.slot t=σ0.slot t)(h:c55 P Φ C (k+os.length) os' ctx h1 σ2 σ1 K r):c55 P Φ C k (os++os') ctx h0 σ0 σx K r:=by let⟨es',σx',σe',hist',g1,g2,g3,g4,g5,g6⟩:=h;exact⟨es++es',σx',σe',hist',ht.append g1,g2,g3,g4,f2z.append ht.len hl g5,λt ht'=>(g6 t λo ho=>ht' o (mem_append_right _ ho)).trans (hk t λo ho=>ht' o (mem_append_left _ ho))⟩
def h0z{C:RegC}{ctx:O (Nat×Bool)}{σ:U.St}{o:Oper}(hg:okG ctx o=true)(hctx:c2k C ctx σ){q:U.Q}{m:Nat}{v:U.AV}{ws:O (Nat×U.MC)}(hev:q.Ev σ 0 m v ws):∃m',(gq C.ops o q).Ev σ 0 m' v ws/\(Sub m (b9d C.ops o C.lim)->Sub m' (b9d C.ops o C.lim))/\(ctx=[]->m'=m):=by cases hgd:o.guard with|none=>exact⟨m,by unfold gq;simp_all,λh=>h,λ_=>rfl⟩|some gw=>
   unfold okG at hg;rw[hgd]at hg;let⟨cq,hcq,hc2⟩:=List.any_eq_true.1 hg;simp only[qB,beq_iff_eq]at hc2;let⟨tg,htg,hsg⟩:=hctx cq hcq;rw[qC hc2.1]at htg;refine⟨2^(2*tg)|||m,?_,λhs=>?_,λh=>by simp_all⟩;.unfold gq;rw[hgd];simp [htg];refine⟨c5p hsg,?_⟩;have:=f2q (2^(2*tg)) hev;simp_all
   .intro i hi;rw[Nat.testBit_or,Nat.testBit_two_pow]at hi;simp [Bool.or_eq_true,decide_eq_true_eq]at hi;rcases hi with hi|hi;.rw[<-hi];exact b9p hgd htg
    .exact hs i hi
def c2k.nil{C:RegC}{σ:U.St}:c2k C [] σ:=λq h=>by grind
def f6e{C:RegC}{ctx:O (Nat×Bool)}{σ σ1:U.St}{os:O Oper}{k:Nat}(h:c2k C ctx σ)(hk:∀q∈b34 k os,d7z C ctx q.2.dst=true)(hs:∀t,(∀o∈os,o.dst≠some t)->σ1.slot t=σ.slot t):c2k C ctx σ1:=by
 intro q hq;let⟨t,ht,hst⟩:=h q hq;refine⟨t,ht,?_⟩;rw[hs t λo ho hd=>?_];.omega
 .let⟨j,hj⟩:=getElem?_of_mem ho;have h1:=hk _ (qE (c7r os k j o hj));rw[hd]at h1;have h2:=qX.1 h1 q hq;rw[ht]at h2;simp at h2
def f6p{C:RegC}{k:Nat}{os:O Oper}{es:O (En U)}{σ σ1:U.St}(ht:Tr P Φ C k os σ es σ1)(hw:∀(j:Nat)(e:En U)(o:Oper),es[j]?=some e->os[j]?=some o->e.ws=[]/\Sub e.m (b9d C.ops o C.lim)):∀(j:Nat)(e:En U)(g:Nat×Nat×Nat),es[j]?=some e->(d16 C (b34 k os))[j]?=some g->g.1=k+j/\Sub e.m g.2.1/\h1t e g.2.2:=by induction os generalizing k es σ with|nil=>intro j e g he hg;simp[d16,b34]at hg|cons o os ih=>cases es with|nil=>exact ht.elim|cons e0 es=>intro j e g he hg;cases j with|zero=>simp[d16,b34]at he hg;subst he;subst hg;let⟨h1,h2⟩:=hw 0 e0 o rfl rfl;refine⟨rfl,h2,λd hd=>?_,λid m hl=>by rw[h1]at hl;cases hl⟩;rw[ht.1.1]at hd;exact f0i hd|succ j=>let⟨h1,h2,h3⟩:=ih ht.2 (λj e o he ho=>hw (j+1) e o (by simpa using he) (by simpa using ho)) j e g (by simpa using he) (by simpa[d16,b34]using hg);exact⟨by omega,h2,h3⟩
def d0h:∀(a b:O Oper)(k:Nat),b34 k (a++b)=b34 k a++b34 (k+a.length) b|[],b,k=>rfl|x::a,b,k=>by simp [cons_append,b34,d0h a b _,qR,show k+1+a.length=k+(a.length+1)by omega]
def e2z:∀(os:O Oper)(k:Nat),(b34 k os).length=os.length|[],_=>rfl|_::os,k=>by simp[b34,e2z os]
def a9x{C:RegC}{R:Type}:∀(n k:Nat)(os:O Oper)(ctx:O (Nat×Bool))(hist:O (Nat×Nat×Nat))(σe:U.St)(K:O (Nat×Nat×Nat)->U.St->A3 R)(r:R),b5i P Φ C n (b34 k os) ctx hist σe K=some r->(∀(j:Nat)(o:Oper),os[j]?=some o->C.ops[k+j]?=some o)->∀σx,e6v σe σx->c2k C ctx σx->c55 P Φ C k os ctx hist σe σx K r
 |0,_,_,_,_,_,_,_,h,_,_,_,_=>by cases h|n+1,k,[],ctx,hist,σe,K,r,h,_,σx,hl,hc=>by refine⟨[],σx,σe,hist,rfl,hl,hc,h,?_⟩;cases ctx with|nil=>exact⟨⟨[],rfl,λ_=>rfl,rfl,λj e g he=>by simp_all⟩,λ_ _=>rfl⟩|cons _ _=>exact⟨⟨rfl,λj e o he=>by simp_all⟩,λ_ _=>rfl⟩
 |n+1,k,o::os,ctx,hist,σe,K,r,h,hops,σx,hless,hctx=>by
   have hops1:∀(j:Nat)(o':Oper),os[j]?=some o'->C.ops[k+1+j]?=some o':=λj o' ho'=>by have:=hops (j+1) o' (by simp_all);grind
   simp only[b34,b5i]at h;cases hsp:(spG C o||C.sp.any (Nat.beq k))&&ctx.isEmpty with
   |true=>
     rw[hsp]at h;simp [qB,isEmpty_iff]at hsp;have hcn:=hsp.2;subst hcn;let⟨m,v,ws,hev,h⟩:=c8x h;have hst:c88 P Φ C k o σx ⟨o.dst,m,v,ws⟩:=by refine⟨rfl,?_⟩;have hev:=hless.ev hev;cases hp:g27 o.op with|true=>rw[hp]at hev;exact .inr hev|false=>rw[hp]at hev;exact .inl hev
     cases hc:!C.draw||e0c (C.bef.getD k 0) m (c2s o ws) hist with|false=>grind|true=>
       rw[hc]at h;dsimp only at h;have hlg:f2z C [] k [o] [(⟨o.dst,m,v,ws⟩:En U)] hist ((k,m,c2s o ws)::hist):=by
        refine⟨[(k,m,c2s o ws)],rfl,λhd=>?_,rfl,λj e g he hg=>?_⟩;.simp [b6z,Bool.and_true];grind
        .cases j with|zero=>simp at he hg;subst he;subst hg;exact⟨rfl,λ_ h=>h,c20.1,c20.2⟩|succ j=>simp at he
       have fin:∀σ',(∀t,σ'.slot t=.unk\/(σe.app o.dst v ws).slot t=σ'.slot t)->(∀id,σ'.mem id=(σe.app o.dst v ws).mem id)->(∀t,o.dst≠some t->σ'.slot t=(σe.app o.dst v ws).slot t)->b5i P Φ C n (b34 (k+1) os) [] ((k,m,c2s o ws)::hist) σ' K=some r->c55 P Φ C k (o::os) [] hist σe σx K r:=by
        intro σ' hs1 hs2 hs3 h;have hless':e6v σ' (σx.app o.dst v ws):=by
         have h0:=hless.app o.dst v ws;refine⟨λt=>?_,λid=>by rw[h0.2 id,hs2 id]⟩;rcases hs1 t with h1|h1;.exact .inl h1
         .rcases h0.1 t with h2|h2;.left;rw[<-h1];omega
          .right;rw[h2,h1]
        let⟨es,σx',σe',hist',g1,g2,g3,g4,g5,g6⟩:=a9x n (k+1) os [] _ _ K r h hops1 _ hless' c2k.nil;refine⟨⟨o.dst,m,v,ws⟩::es,σx',σe',hist',⟨hst,g1⟩,g2,g3,g4,f2z.append rfl hlg g5,λt ht=>?_⟩;rw[g6 t λo' ho'=>ht o' (qJ _ ho'),hs3 t (ht o qI),s9,if_neg (ht o qI)]
       have self:=λh=>fin _ (λt=>.inr rfl) (λ_=>rfl) (λ_ _=>rfl) h;split at h
       .unfold g02 at h;split at h
        .rename_i t hdt;have put:∀b,(σe.app o.dst v ws).slot t=.bool b->b5i P Φ C n (b34 (k+1) os) [] ((k,m,c2s o ws)::hist) ((σe.app o.dst v ws).put (some t) (.bool b)) K=some r->c55 P Φ C k (o::os) [] hist σe σx K r:=by
          intro b hb h;have e:∀t',((σe.app o.dst v ws).put (some t) (.bool b)).slot t'=if some t=some t' then .bool b else(σe.app o.dst v ws).slot t':=λt'=>s9 (σe.app o.dst v ws) (some t) (.bool b) [] t';refine fin ((σe.app o.dst v ws).put (some t) (.bool b)) (λt'=>?_) (λid=>rfl) (λt' ht'=>?_) h
          .right;rw[e];split;.rename_i e';cases e';omega
           .rfl
          .rw[e,if_neg];rw[hdt]at ht';omega
         split at h;.rename_i e he;cases e with|true=>exact put true he (by simpa using h)|false=>exact put false he (by simpa using h)
         .exact self h
         .cases h
        .cases h
       .exact self h
   |false=>rw[hsp]at h;cases hg:okG ctx o with
   |true=>rw[hg]at h;let⟨m,v,ws,hev,h⟩:=c8x h;let⟨m',hgq,hsub,hm'⟩:=h0z hg hctx (hless.ev hev);cases ctx with
     |nil=>cases hc:!C.draw||e0c (C.bef.getD k 0) m (c2s o ws) hist with|false=>grind|true=>
         rw[hc]at h;have hmm:=hm' rfl;subst hmm;refine c55.cons (e:=⟨o.dst,m',v,ws⟩) ⟨rfl,.inl hgq⟩ ⟨[(k,m',c2s o ws)],rfl,λhd=>?_,rfl,λj e g he hg=>?_⟩ (a9x n (k+1) os [] _ _ K r h hops1 _ (hless.app _ _ _) c2k.nil);.simp [b6z,Bool.and_true];grind
         .cases j with|zero=>simp at he hg;subst he;subst hg;exact⟨rfl,λ_ h=>h,c20.1,c20.2⟩|succ j=>simp at he
     |cons c ctx=>cases ws with|cons _ _=>grind|nil=>dsimp only at h;cases hc:d7z C (c::ctx) o.dst&&h38 m (b9d C.ops o C.lim)with|false=>grind|true=>rw[hc]at h;simp [qB]at hc;refine c55.cons (e:=⟨o.dst,m',v,[]⟩) ⟨rfl,.inl hgq⟩ ⟨rfl,λj e o' he ho'=>?_⟩ (a9x n (k+1) os (c::ctx) _ _ K r h hops1 _ (hless.app _ _ _) (hctx.app hc.1));cases j with|zero=>simp at he ho';subst he;subst ho';exact⟨rfl,hsub (e91 hc.2)⟩|succ j=>simp at he
   |false=>rw[hg]at h;cases hgd:o.guard with|none=>simp_all|some gw=>let⟨g,want⟩:=gw;rw[hgd]at h;dsimp only at h;cases hgs:c5h C.ops g with|none=>simp_all|some t=>
         rw[hgs]at h;dsimp only at h;cases hst:σe.slot t<;>rw[hst]at h<;>try(cases h)
         rename_i e;let⟨os1,os2,hos,htk,hdr,hin⟩:=d2y (o::os) k (c2v g want k);have htk:((k,o)::b34 (k+1) os).takeWhile (c2v g want k)=b34 k os1:=htk;have hdr:((k,o)::b34 (k+1) os).dropWhile (c2v g want k)=b34 (k+os1.length) os2:=hdr;rw[htk,hdr]at h;cases os2 with|nil=>cases h|cons op os2=>simp [b34]at h;cases hp:d8e (k+os1.length,op)with|none=>grind|some dt=>let⟨d,t',x,y⟩:=dt;rw[hp]at h;dsimp only at h;cases hc:Nat.beq t' t&&okG ctx op&&d7z C ctx (some d)&&f7n t (b34 k os1)&&((b34 k os1).all λq=>d7z C ctx q.2.dst)with|false=>grind|true=>
               rw[hc]at h;simp only[qB]at hc;let⟨⟨⟨⟨hc1,hc2⟩,hc3⟩,hc4⟩,hc5⟩:=hc;have hc1:=qC hc1;subst hc1;let⟨c,hcv,h⟩:=g7a h;have hsx:σx.slot t'=.bool e:=by rw[(hless.1 t').resolve_left (c5p hst)];omega
               have hops0:=λj o' ho'=>hops j o' (by rw[hos,getElem?_append_left (qD.1 ho').1];omega);have hops2:∀(j:Nat)(o':Oper),os2[j]?=some o'->C.ops[k+os1.length+1+j]?=some o':=λj o' ho'=>by have:=hops (os1.length+1+j) o' (by rw[hos,getElem?_append_right (by omega),show os1.length+1+j-os1.length=j+1by omega];simpa using ho');rwa[show k+(os1.length+1+j)=k+os1.length+1+j by omega]at this
               have hseg:∃es σ1,Tr P Φ C k os1 σx es σ1/\(∀(j:Nat)(e:En U)(o:Oper),es[j]?=some e->os1[j]?=some o->e.ws=[]/\Sub e.m (b9d C.ops o C.lim))/\(∀e∈es,e.ws=[])/\σ1.slot t'=.bool e/\c0g σ1 (if e=true then x else y)=some c:=by
                have run:∀(z:Operand),e=want->(if e=true then x else y)=z->b5i P Φ C n (b34 k os1) ((g,want)::ctx) hist σe (λ_ σ'=>c0g σ' z)=some c->∃es σ1,Tr P Φ C k os1 σx es σ1/\(∀(j:Nat)(e:En U)(o:Oper),es[j]?=some e->os1[j]?=some o->e.ws=[]/\Sub e.m (b9d C.ops o C.lim))/\(∀e∈es,e.ws=[])/\σ1.slot t'=.bool e/\c0g σ1 (if e=true then x else y)=some c:=by
                 intro z hew hz hr;let⟨es,σ1,σe1,hist1,g1,g2,g3,g4,g5,_⟩:=a9x n k os1 ((g,want)::ctx) hist σe _ c hr hops0 σx hless (λq hq=>by
                  rcases qO.1 hq with e'|e';.rw[e'];exact⟨t',hgs,by rw[hsx,hew]⟩
                  .exact hctx q e');let⟨tt,ht1,ht2⟩:=g3 (g,want) qI;rw[hgs]at ht1;cases ht1;refine⟨es,σ1,g1,g5.2,λe he=>?_,by rw[hew];omega,by rw[hz];exact d1u g2 g4⟩;let⟨j,hj⟩:=getElem?_of_mem he;have hlt:j<os1.length:=by rw[<-g1.len];exact(qD.1 hj).1
                 exact(g5.2 j e _ hj (qG hlt)).1
                have skip:∀(z:Operand),e≠want->(if e=true then x else y)=z->c0g (b4l σe (b34 k os1)) z=some c->∃es σ1,Tr P Φ C k os1 σx es σ1/\(∀(j:Nat)(e:En U)(o:Oper),es[j]?=some e->os1[j]?=some o->e.ws=[]/\Sub e.m (b9d C.ops o C.lim))/\(∀e∈es,e.ws=[])/\σ1.slot t'=.bool e/\c0g σ1 (if e=true then x else y)=some c:=by
                 intro z hew hz hr;let⟨es,σ1,g1,g2,g3,g4⟩:=f1b (P:=P) (Φ:=Φ) hgs hew os1 k σx (Nat.le_refl _) hsx (λg' h1 h2=>by omega) hops0 hin hc4;let⟨k1,k2⟩:=e0p g1 g2;refine⟨es,σ1,g1,λj e o he ho=>⟨g2 e (qE he),g3 j e o he ho⟩,g2,g4,?_⟩;rw[hz];refine d1u ⟨λtt=>?_,λid=>?_⟩ hr
                 .rcases c37 (b34 k os1) σe tt with h1|⟨h1,h2⟩;.exact .inl h1
                  .rw[h1];rcases hless.1 tt with h3|h3;.exact .inl h3
                   .right;rw[k2 tt λo ho hd=>?_];.omega
                    .let⟨j,hj⟩:=getElem?_of_mem ho;exact h2 _ (qE (c7r os1 k j o hj)) hd
                 .rw[k1 id,c69,hless.2 id]
                cases want with
                |true=>cases e with|true=>exact run x rfl rfl (by simpa using hcv)|false=>exact skip y (by simp) rfl (by simpa using hcv)
                |false=>cases e with|true=>exact skip x (by simp) rfl (by simpa using hcv)|false=>exact run y rfl rfl (by simpa using hcv)
               let⟨es,σ1,g1,g2,g3,g4,g5⟩:=hseg;let⟨k1,k2⟩:=e0p g1 g3;have hctx1:=f6e hctx (λq hq=>qX.1 hc5 q hq) k2;let⟨mp,hstep,hmsub⟩:=f01 (P:=P) (Φ:=Φ) hp hc2 hctx1 g4 g5;have hless1:=by
                refine e6v.app (σ:=b4l σe (b34 k os1)) (σ':=σ1) ⟨λtt=>?_,λid=>?_⟩ (some d) (.bool c) []
                .rcases c37 (b34 k os1) σe tt with h1|⟨h1,h2⟩;.exact .inl h1
                 .rw[h1];rcases hless.1 tt with h3|h3;.exact .inl h3
                  .right;rw[k2 tt λo ho hd=>?_];.omega
                   .let⟨j,hj⟩:=getElem?_of_mem ho;exact h2 _ (qE (c7r os1 k j o hj)) hd
                .rw[k1 id,c69,hless.2 id]
               have hdst:op.dst=some d:=by
                unfold d8e at hp;split at hp;.cases hp;omega
                .cases hp
               rw[hos];have hTr2:Tr P Φ C k (os1++[op]) σx (es++[⟨some d,mp,.bool c,[]⟩]) (σ1.app (some d) (.bool c) []):=g1.append ⟨hstep,rfl⟩;have hlg2:∀(j:Nat)(e:En U)(o:Oper),(es++[(⟨some d,mp,.bool c,[]⟩:En U)])[j]?=some e->(os1++[op])[j]?=some o->e.ws=[]/\Sub e.m (b9d C.ops o C.lim):=by
                intro j e o he ho;rcases p5 he with⟨hj,he⟩|⟨hj,he⟩
                .rcases p5 ho with⟨hj',ho⟩|⟨hj',ho⟩;.exact g2 j e o he ho
                 .have:=g1.len;omega
                .rcases p5 ho with⟨hj',ho⟩|⟨hj',ho⟩;.have:=g1.len;omega
                 .have hlen:=g1.len;rw[hlen]at he;cases hjj:j-os1.length with|zero=>rw[hjj]at he ho;simp at he ho;subst he;subst ho;exact⟨rfl,hmsub⟩|succ q=>rw[hjj]at he;simp at he
               rw[show os1++op::os2=(os1++[op])++os2 by simp];have hkeep:∀t,(∀o∈os1++[op],o.dst≠some t)->((b4l σe (b34 k os1)).put (some d) (.bool c)).slot t=σe.slot t:=λt ht=>by
                have e:((b4l σe (b34 k os1)).put (some d) (.bool c)).slot t=if some d=some t then .bool c else(b4l σe (b34 k os1)).slot t:=s9 (b4l σe (b34 k os1)) (some d) (.bool c) [] t;rw[e,if_neg,c8z];.intro q hq;let⟨j,_,hj⟩:=e49 hq;exact ht q.2 (mem_append_left _ (qE hj))
                .rw[<-hdst];exact ht op (by simp)
               cases ctx with
               |nil=>cases hol:!C.draw||b6z C (d16 C (b34 k os1++[(k+os1.length,op)])) hist with|false=>rw[hol]at h;cases h|true=>
                   rw[hol]at h;refine c55.append hTr2 ⟨d16 C (b34 k os1++[(k+os1.length,op)]),rfl,λhd=>?_,?_,λj e g he hg=>?_⟩ hkeep ?_;.rw[hd]at hol;simpa using hol
                   .have:=g1.len;simp[d16,e2z,this]
                   .have he2:b34 k os1++[(k+os1.length,op)]=b34 k (os1++[op]):=by rw[d0h];rfl
                    rw[he2]at hg;exact f6p hTr2 hlg2 j e g he hg
                   .have:=a9x n (k+os1.length+1) os2 [] _ _ K r h hops2 _ hless1 c2k.nil;simpa[Nat.add_assoc]using this
               |cons c0 ctx=>refine c55.append hTr2 ⟨rfl,hlg2⟩ hkeep ?_;have:=a9x n (k+os1.length+1) os2 (c0::ctx) _ _ K r h hops2 _ hless1 (hctx1.app hc3);simpa[Nat.add_assoc]using this
end
section
variable {P:Program} {U:Uni} {Φ:Phi U} {E:Env} {n:Nat} {ops:O Oper}
def Rel.congr{Z:Nat->Prop}{π:Nat->A5}{σ σ':U.St}{ρ:Nat->A5}{w:World}(h:Rel E Z π σ ρ w)(hl:e6v σ' σ):Rel E Z π σ' ρ w:=by
 have hcx:cx Z π σ' w=cx Z π σ w:=by unfold cx;congr 1;funext id;unfold b7a;rw[hl.2 id]
 refine⟨λt=>?_,λid=>?_,λid b hb=>?_,λid id' b hne hb hb'=>?_,h.zlt,h.zin,h.zout,h.ext,λid hp=>⟨by have:=(h.pin id hp).1;unfold b7a at this⊢;rwa[<-hl.2 id],(h.pin id hp).2⟩,h.tab⟩
 .rw[hcx];rcases hl.1 t with h1|h1;.rw[h1];trivial
  .rw[<-h1];exact h.slot t
 .rw[hcx,<-hl.2 id];exact h.mem id
 .rw[<-hl.2 id]at hb;exact h.own id b hb
 .rw[<-hl.2 id]at hb;rw[<-hl.2 id']at hb';exact h.dist id id' b hne hb hb'
def e81{Z:Nat->Prop}{π:Nat->A5}{σ:U.St}{ρ:Nat->A5}{w:World}(h:Rel E Z π σ ρ w){o:Oper}{m0 m:Nat}{v:U.AV}{ws:O (Nat×U.MC)}(hev:(f8p o.op:U.Q).Ev σ m0 m v ws):a48 P E σ ρ w o v ws:=by
 let ⟨d,op,ty,ps,af,g⟩:=o;cases op<;>try exact hev.elim
 let ⟨e,m1,he,hev⟩:=u6 h hev;cases e<;>try exact hev.elim
 rename_i e;cases e with|true=>obtain⟨x,m2,hx,hm,rfl,rfl⟩:=u6 h hev;exact g8 h (e22 he rfl) hx|false=>obtain⟨x,m2,hx,hm,rfl,rfl⟩:=u6 h hev;exact g8 h (e2v he rfl) hx
def f07(hU:UOK U)(hΦ:OKΦ P Φ)(hT:Plan.okTmps ops n=true)(hS:Plan.okSel ops=true){C:RegC}(hC:C.ops=ops){i:Nat}{o:Oper}(ho:ops[i]?=some o){Z:Nat->Prop}{π:Nat->A5}{σ:U.St}{ρ:Nat->A5}{w:World}(h:Rel E Z π σ ρ w){e:En U}(hs:c88 P Φ C i o σ e){Q:Exit->Act->World->Prop}{K:Act->World->Prop}{rr:A3 Nat}{ds:O Deferred}(hK:∀Z' π' u w',Rel E Z' π' (σ.app e.d e.v e.ws) (b20 ρ e.d u) w'->K (Frd n (b20 ρ e.d u) ds) w'):wpOpIn (FR rr) 9 P ops.toArray Q i K (Frd n ρ ds) w:=by
 let ⟨hd,hs⟩:=hs;have hboth:∃q:U.Q,(gq C.ops o q).Ev σ 0 e.m e.v e.ws/\∀m0,q.Ev σ m0 e.m e.v e.ws->a48 P E σ ρ w o e.v e.ws:=by
  rcases hs with hs|hs;.exact⟨_,hs,λm0 hh=>f3z hU hΦ h hh⟩
  .exact⟨_,hs,λm0 hh=>e81 h hh⟩
 let ⟨q,hq,hgood⟩:=hboth;unfold wpOpIn;simp [getElem?_toArray,ho];have hw:Region.wanted o (yielded ops.toArray (Frd n ρ ds).tmps)=Region.wanted o (yl ops ρ):=by congr 1;funext g;exact e69 hT ρ g
 rw[hw];have hdo:a48 P E σ ρ w o e.v _->o.wpIn (FR rr) 9 P (Frd n ρ ds) w K Q:=λhg=>by
  refine a0k.wp (K:=λv w'=>∃Z' π',Rel E Z' π' (σ.app o.dst e.v e.ws) (b20 ρ o.dst v) w') ?_ ?_;.unfold a0k;rwa[c0s hT hS ho ρ]
  .rintro v w'⟨Z',π',hR⟩;rw[c6r];grind
 have hskip:e.v=.undef->e.ws=[]->K ((Frd n ρ ds).put o.dst undef) w:=λh1 h2=>by rw[c6r];have hR:=h.val (d:=o.dst) (a:=.undef) (Ext.refl noG w) rfl;grind
 unfold gq at hq;cases hgd:o.guard with|none=>rw[hgd]at hq;rw[if_pos (by simp[Region.wanted,hgd])];exact hdo (hgood _ hq)|some gw=>let ⟨g,want⟩:=gw;rw[hgd]at hq;dsimp only at hq;cases hgs:c5h _ g with|none=>rw[hgs]at hq;exact hq.elim|some t=>
     rw[hgs]at hq;have hbd:(ops[g]?).bind (·.dst)=some t:=by unfold c5h at hgs;rw[hC]at hgs;cases hx:ops[g]?with|none=>rw[hx]at hgs;cases hgs|some og=>rw[hx]at hgs;simpa using hgs
     have hq:=hq.2;have hslot:=h.slot t;cases hst:σ.slot t<;>rw[hst]at hq hslot<;>try exact hq.elim
     .--theguard'soperationwaspassedoveritself
      let ⟨_,h1,h2⟩:=hq;have hslot:ρ t=undef:=hslot;rw[if_neg];.exact⟨λ_ _=>trivial,hskip h1 h2⟩
      .simp[Region.wanted,hgd,yl,hbd,hslot,undef]
     .rename_i b;have hslot:ρ t=.bool b:=hslot
      cases hb:b==want with|true=>
        rw[if_pos];.exact hdo (hgood _ (by have:=hq;simp [hb]at this;omega))
        .have:=by simpa using hb
         simp[Region.wanted,hgd,yl,hbd,hslot,this]|false=>
        obtain⟨_,h1,h2⟩:=(by have:=hq;simp [hb]at this;omega);rw[if_neg];.exact⟨λ_ _=>trivial,hskip h1 h2⟩
        .have:b≠want:=by intro e';rw[e']at hb;simp at hb
         simp[Region.wanted,hgd,yl,hbd,hslot,this]
def e3c(hU:UOK U)(hΦ:OKΦ P Φ)(hT:Plan.okTmps ops n=true)(hS:Plan.okSel ops=true){C:RegC}(hC:C.ops=ops){Q:Exit->Act->World->Prop}{rr:A3 Nat}{ds:O Deferred}:∀(os:O Oper)(k:Nat)(σ σ':U.St)(es:O (En U)),Tr P Φ C k os σ es σ'->(∀(j:Nat)o,os[j]?=some o->ops[k+j]?=some o)->∀ρ0:Nat->A5,(∀Z π ρ w,(∀t,(∀o∈ops,o.dst≠some t)->ρ t=ρ0 t)->Rel E Z π σ' ρ w->Q .normal (Frd n ρ ds) w)->∀Z π ρ w,(∀t,(∀o∈ops,o.dst≠some t)->ρ t=ρ0 t)->Rel E Z π σ ρ w->wpOpsIn (FR rr) 9 P ops.toArray Q (List.range' k os.length) (Frd n ρ ds) w
 |[],k,σ,σ',[],ht,_,ρ0,hQ,Z,π,ρ,w,hk,h=>by subst ht;exact hQ Z π ρ w hk h|o::os,k,σ,σ',e::es,ht,hops,ρ0,hQ,Z,π,ρ,w,hk,h=>by
   have ho:=by simpa using hops 0 o rfl
   refine f07 hU hΦ hT hS hC ho h ht.1 λZ' π' u w' hR=>?_;exact e3c hU hΦ hT hS hC os _ _ σ' es ht.2 (λj o' ho'=>by have:=hops (j+1) o' (by simpa using ho');rwa[show k+(j+1)=k+1+j by omega]at this) ρ0 hQ Z' π' _ w' (λt ht'=>by rw[c9j,if_neg (by rw[ht.1.1];exact ht' o (qE ho))];exact hk t ht') hR|[],_,_,_,_::_,h,_,_,_,_,_,_,_,_,_=>h.elim|_::_,_,_,_,[],h,_,_,_,_,_,_,_,_,_=>h.elim
def d0m(L:Nat->Bool):Nat->O (En U)->U.St->U.St|_,[],σ=>σ|k,e::es,σ=>d0m L (k+1) es (if L k=true then σ.app e.d e.v e.ws else σ)
def c0k{L:Nat->Bool}:∀(es:O (En U))(k:Nat)(σ:U.St),(∀i,k<=i->L i=false)->d0m L k es σ=σ|[],_,_,_=>rfl|e::es,k,σ,h=>by simp [d0m,h k _];exact c0k es _ σ λi hi=>h i (by omega)
def e2q{C:RegC}{L:Nat->Bool}:∀(os:O Oper)(k:Nat)(σ σ':U.St)(es:O (En U)),Tr P Φ C k os σ es σ'->(∀j,j<os.length->L (k+j)=true)->d0m L k es σ=σ'|[],k,σ,σ',[],ht,_=>by rw[ht];rfl|o::os,k,σ,σ',e::es,ht,hL=>by have h0:=hL 0 (by simp);simp [Nat.add_zero]at h0;simp [d0m,h0,if_true];exact e2q os _ _ σ' es ht.2 λj hj=>by have:=hL (j+1) (by simp_all);grind|[],_,_,_,_::_,h,_=>h.elim|_::_,_,_,_,[],h,_=>h.elim
def e24{C:RegC}:∀(os:O Oper)(k:Nat)(σ σ':U.St)(es:O (En U)),Tr P Φ C k os σ es σ'->∀(j:Nat)(o:Oper)(e:En U),os[j]?=some o->es[j]?=some e->c88 P Φ C (k+j) o (d0m (λi=>decide (i<k+j)) k es σ) e
 |[],k,σ,σ',[],ht,j,o,e,ho,_=>by simp_all|o0::os,k,σ,σ',e0::es,ht,0,o,e,ho,he=>by simp at ho he;subst ho;subst he;rw[c0k _ _ _ λi hi=>by simp_all];exact ht.1|o0::os,k,σ,σ',e0::es,ht,j+1,o,e,ho,he=>by
   have:=e24 os _ _ σ' es ht.2 j o e (by simp_all) (by simp_all);have h0:decide (k<k+(j+1))=true:=by simp
   simp [d0m,h0,if_true];grind|[],_,_,_,_::_,h,_,_,_,_,_=>h.elim|_::_,_,_,_,[],h,_,_,_,_,_=>h.elim
def c4f{L L':Nat->Bool}(t:Nat):∀(es:O (En U))(k:Nat)(σ σ':U.St),σ.slot t=σ'.slot t->(∀(j:Nat)(e:En U),es[j]?=some e->e.d=some t->L (k+j)=L' (k+j))->(d0m L k es σ).slot t=(d0m L' k es σ').slot t
 |[],k,σ,σ',h,_=>h|e::es,k,σ,σ',h,hL=>by
   refine c4f t es _ _ _ ?_ λj e' he' hd=>by have:=hL (j+1) e' (by simp_all) hd;grind
   by_cases hd:e.d=some t
   .have:=hL 0 e rfl hd;simp [Nat.add_zero]at this;rw[this];split;.rw[s9,s9,if_pos hd,if_pos hd]
    omega
   .have h1:∀(b:Bool)(σ:U.St),(if b=true then σ.app e.d e.v e.ws else σ).slot t=σ.slot t:=λb σ=>by
     split;.rw[s9,if_neg hd]
     .rfl
    rw[h1,h1];omega
def c7j{L L':Nat->Bool}(id:Nat):∀(es:O (En U))(k:Nat)(σ σ':U.St),σ.mem id=σ'.mem id->(∀(j:Nat)(e:En U)m,es[j]?=some e->lk id e.ws=some m->L (k+j)=L' (k+j))->(d0m L k es σ).mem id=(d0m L' k es σ').mem id
 |[],k,σ,σ',h,_=>h|e::es,k,σ,σ',h,hL=>by
   refine c7j id es _ _ _ ?_ λj e' m he' hd=>by have:=hL (j+1) e' m (by simp_all) hd;grind
   cases hd:lk id _ with
   |some m=>
     have:=hL 0 e m rfl hd;simp [Nat.add_zero]at this;rw[this];split;.rw[o8,o8,hd]
     omega|none=>
     have h1:∀(b:Bool)(σ:U.St),(if b=true then σ.app e.d e.v _ else σ).mem id=σ.mem id:=λb σ=>by
      split;.rw[o8,hd]
      .rfl
     rw[h1,h1];omega
def d2c{L:Nat->Bool}(t:Nat):∀(es:O (En U))(k p:Nat)(σ:U.St)(e:En U),es[p]?=some e->L (k+p)=true->e.d=some t->(∀(j:Nat)(e':En U),p<j->es[j]?=some e'->e'.d=some t->L (k+j)=false)->(d0m L k es σ).slot t=e.v|[],k,p,σ,e,he,_,_,_=>by simp_all|e0::es,k,0,σ,e,he,hL,hd,hno=>by simp at he;subst he;simp [Nat.add_zero]at hL;simp [d0m,hL,if_true];rw[c4f (L':=λ_=>false) t es _ _ _ rfl λj e' he' hd'=>by have:=hno (j+1) e' (by omega) (by simp_all) hd';grind];rw[c0k _ _ _ λ_ _=>rfl,s9,if_pos hd]|e0::es,k,p+1,σ,e,he,hL,hd,hno=>by refine d2c t es _ p _ e (by simp_all) (by grind) hd λj e' hj he' hd'=>?_;have:=hno (j+1) e' (by omega) (by simpa using he') hd';grind
def d1z{L:Nat->Bool}(id:Nat):∀(es:O (En U))(k p:Nat)(σ:U.St)(e:En U)(m:U.MC),es[p]?=some e->L (k+p)=true->lk id e.ws=some m->(∀(j:Nat)(e':En U)m',p<j->es[j]?=some e'->lk id e'.ws=some m'->L (k+j)=false)->(d0m L k es σ).mem id=m|[],k,p,σ,e,m,he,_,_,_=>by simp_all|e0::es,k,0,σ,e,m,he,hL,hd,hno=>by simp at he;subst he;simp [Nat.add_zero]at hL;simp [d0m,hL,if_true];rw[c7j (L':=λ_=>false) id es _ _ _ rfl λj e' m' he' hd'=>by have:=hno (j+1) e' m' (by omega) (by simp_all) hd';grind];rw[c0k _ _ _ λ_ _=>rfl,o8,hd]|e0::es,k,p+1,σ,e,m,he,hL,hd,hno=>by refine d1z id es _ p _ e m (by simp_all) (by grind) hd λj e' m' hj he' hd'=>?_;have:=hno (j+1) e' m' (by omega) (by simpa using he') hd';grind
def c3o(acc:O Nat)(o:Oper):Nat:=o.after.toList.foldl (λs e=>bif Region.binds .any e then s|||2^e.on|||acc.getD e.on 0 else s) 0
def d7e{acc:O Nat}{o:Oper}{i:Nat}(h:(c3o acc o).testBit i=true):∃x∈o.after,Region.binds .any x=true/\(x.on=i\/(acc.getD x.on 0).testBit i=true):=by
 have key:∀(l:O _)(s:Nat),(l.foldl (λs e=>bif Region.binds .any e then s|||2^e.on|||acc.getD e.on 0 else s) s).testBit i=true->s.testBit i=true\/∃x∈l,Region.binds .any x=true/\(x.on=i\/(acc.getD x.on 0).testBit i=true):=by intro l;induction l with|nil=>simp_all|cons e l ih=>
    intro s h;rcases ih _ h with h1|⟨x,hx,h1⟩;.dsimp only at h1;cases hb:Region.binds _ e with|false=>grind|true=>
       rw[hb]at h1;simp [cond_true,Nat.testBit_or,Nat.testBit_two_pow,Bool.or_eq_true,decide_eq_true_eq]at h1;rcases h1 with(h1|h1)|h1;.grind
       .exact .inr ⟨e,qI,hb,.inl h1⟩
       .exact .inr ⟨e,qI,hb,.inr h1⟩
    .exact .inr ⟨x,qJ _ hx,h1⟩
 rcases key _ _ h with h1|⟨x,hx,h1⟩;.simp at h1
 .exact⟨x,Array.mem_toList_iff.1 hx,h1⟩
def f0h:∀(os:O Oper)(acc:O Nat)(j:Nat),acc.length<=j->j<acc.length+os.length->∃acc' o,os[j-acc.length]?=some o/\(os.foldl (λacc o=>acc++[c3o acc o]) acc).getD j 0=c3o acc' o/\acc'.length=j/\∀q,q<j->acc'.getD q 0=(os.foldl (λacc o=>acc++[c3o acc o]) acc).getD q 0
 |[],acc,j,h1,h2=>by grind|o::os,acc,j,h1,h2=>by
   have pre:∀(os:O _)(acc:O Nat)(q:Nat),q<acc.length->(os.foldl (λacc o=>acc++[c3o acc o]) acc).getD q 0=acc.getD q 0:=by intro os;induction os with|nil=>simp_all|cons o os ih=>grind
   simp only[foldl_cons];rcases Nat.lt_or_ge acc.length j with hj|hj;.let ⟨acc',o',g1,g2,g3,g4⟩:=f0h os (acc++[c3o acc o]) j (by grind) (by grind);refine⟨acc',o',?_,g2,g3,g4⟩;rw[show j-acc.length=(j-(acc.length+1))+1by omega];simpa using g1
   .have hje:j=acc.length:=by omega
    subst hje;refine⟨acc,o,by simp,?_,rfl,λq hq=>?_⟩;.rw[pre _ _ _ (by simp)];simp[getD_eq_getElem?_getD]
    .grind
def f0e{i j:Nat}(hj:j<ops.length)(h:((g6n ops).getD j 0).testBit i=true):∃o,ops[j]?=some o/\∃x∈o.after,Region.binds .any x=true/\(x.on=i\/(x.on<j/\((g6n ops).getD x.on 0).testBit i=true)):=by
 let ⟨acc',o,h1,h2,h3,h4⟩:=f0h ops [] j (Nat.zero_le _) (by omega);have e:g6n ops=ops.foldl (λacc o=>acc++[c3o acc o]) []:=e42 ops [];rw[e]at h;rw[h2]at h;let ⟨x,hx,hb,hh⟩:=d7e h;refine⟨o,by omega,x,hx,hb,?_⟩;rcases hh with hh|hh;.omega
 .right;rcases Nat.lt_or_ge _ j with hlt|hge;.refine⟨hlt,?_⟩;rw[e,<-h4 _ hlt];omega
  .simp_all
def c9g{L:Nat->Prop}(hL:∀j o,ops[j]?=some o->L j->∀x∈o.after,Region.binds .any x=true->L x.on)(hlen:∀j,L j->j<ops.length):∀(j i:Nat),j<ops.length->(∀o,ops[j]?=some o->∀x∈o.after,Region.binds .any x=true->L x.on)->((g6n ops).getD j 0).testBit i=true->L i:=by intro j;induction j using Nat.strongRecOn with|_ j ih=>
   intro i hj hp h;let ⟨o,ho,x,hx,hb,hh⟩:=f0e hj h;have hxL:=hp o ho x hx hb;rcases hh with hh|⟨hlt,hh⟩;.grind
   .exact ih _ hlt i (hlen _ hxL) (λo' ho'=>hL _ o' ho' hxL) hh
def c89{C:RegC}:∀(lg hist:O (Nat×Nat×Nat)),b6z C lg hist=true->∀(j:Nat)g,lg[j]?=some g->e0c (C.bef.getD g.1 0) g.2.1 g.2.2 hist=true/\∀(i:Nat)g',i<j->lg[i]?=some g'->(C.bef.getD g.1 0).testBit g'.1=true\/(g.2.2&&&(g'.2.1|||g'.2.2)=0/\g'.2.2&&&g.2.1=0)
 |[],hist,_,j,g,hg=>by simp_all|e::lg,hist,h,0,g,hg=>by simp [b6z,qB]at h;simp_all|e::lg,hist,h,j+1,g,hg=>by
   simp [b6z,qB]at h;let ⟨h1,h2⟩:=c89 lg _ h.2 j g (by simp_all);unfold e0c at h1;simp only[all_cons,qB,Bool.or_eq_true]at h1;refine⟨h1.2,λi g' hi hg'=>?_⟩
   cases i with|zero=>
     simp at hg';subst hg';rcases h1.1with h3|h3;.grind
     .exact .inr ⟨qC h3.1,qC h3.2⟩|succ i=>exact h2 i g' (by omega) (by simpa using hg')
end
section
variable {P:Program} {U:Uni} {Φ:Phi U} {E:Env} {n:Nat} {ops:O Oper}
def e2j{a b k:Nat}(h:a&&&b=0)(ha:a.testBit k=true)(hb:b.testBit k=true):False:=by
 have:(a&&&b).testBit k=true:=by grind
 simp_all
structure LogOK(C:RegC)(es:O (En U))(lg:O (Nat×Nat×Nat)):Prop where
 len:lg.length=es.length
 at_:∀(j:Nat)(e:En U)(g:Nat×Nat×Nat),es[j]?=some e->lg[j]?=some g->g.1=j/\Sub e.m g.2.1/\h1t e g.2.2ok:b6z C lg []=true
def LogOK.pair{C:RegC}{es:O (En U)}{lg:O (Nat×Nat×Nat)}(h:LogOK C es lg){i j:Nat}{ei ej:En U}(hij:i<j)(hi:es[i]?=some ei)(hj:es[j]?=some ej):(C.bef.getD j 0).testBit i=true\/∀k,((∃m,k=2*m/\ej.d=some m)\/(∃id m,k=2*id+1/\lk id ej.ws=some m)->ei.m.testBit k=true\/(∃m,k=2*m/\ei.d=some m)\/(∃id m,k=2*id+1/\lk id ei.ws=some m)->False)/\((∃m,k=2*m/\ei.d=some m)\/(∃id m,k=2*id+1/\lk id ei.ws=some m)->ej.m.testBit k=true->False):=by
 have hli:i<lg.length:=by rw[h.len];grind
 have hlj:j<lg.length:=by rw[h.len];grind
 let ⟨a1,a2,a3⟩:=h.at_ i ei _ hi (qG hli);let ⟨b1,b2,b3⟩:=h.at_ j ej _ hj (qG hlj);have hp:=(c89 lg [] h.ok j _ (qG hlj)).2 i _ hij (qG hli);rw[a1,b1]at hp;have wbit:∀{e:En U}{w k:Nat},h1t e w->((∃m,k=2*m/\e.d=some m)\/(∃id m,k=2*id+1/\lk id e.ws=some m))->w.testBit k=true:=by
  intro e w k hw hk;rcases hk with⟨m,rfl,hm⟩|⟨id,m,rfl,hm⟩;.exact hw.1 m hm
  .exact hw.2 id m hm
 rcases hp with hp|⟨h1,h2⟩;.exact .inl hp
 .refine .inr λk=>⟨λhw hr=>?_,λhw hr=>?_⟩
  .refine e2j h1 (wbit b3 hw) ?_;rw[Nat.testBit_or];rcases hr with hr|hr;.rw[a2 k hr];rfl
   .rw[wbit a3 hr];simp
  .exact e2j h2 (wbit a3 hw) (b2 k hr)
def f8a(hU:UOK U)(hΦ:OKΦ P Φ)(hT:Plan.okTmps ops n=true)(hS:Plan.okSel ops=true)(hA:Plan.okAfter ops=true){C:RegC}(hC:C.ops=ops)(hB:C.bef=g6n ops){σ0 σn:U.St}{es:O (En U)}{lg:O (Nat×Nat×Nat)}(ht:Tr P Φ C 0 ops σ0 es σn)(hlg:LogOK C es lg){Q:Exit->Act->World->Prop}{rr:A3 Nat}{ds:O Deferred}{ρ0:Nat->A5}(hQ:∀Z π ρ w,(∀t,(∀o∈ops,o.dst≠some t)->ρ t=ρ0 t)->Rel E Z π σn ρ w->Q .normal (Frd n ρ ds) w):∀(fuel:Nat)(listed:Array Bool)(ρ:Nat->A5)(w:World),listed.size=ops.length->(∀l:O Nat,l.Nodup->(∀i∈l,listed.getD i true=false)->l.length<=fuel)->(∀(j:Nat)(o:Oper),ops[j]?=some o->listed.getD j false=true->∀x∈o.after,Region.binds .any x=true->listed.getD x.on false=true)->(∀t,(∀o∈ops,o.dst≠some t)->ρ t=ρ0 t)->(∃Z π,Rel E Z π (d0m (λk=>listed.getD k false) 0 es σ0) ρ w)->wpAnyIn (FR rr) 9 P .any ops.toArray Q fuel listed (Frd n ρ ds) w:=by
 have hall:∀(listed:Array Bool),listed.size=ops.length->Region.ready .any ops.toArray listed=[]->∀i,i<ops.length->listed.getD i false=true:=by intro listed hsz hr i;induction i using Nat.strongRecOn with|_ i ih=>intro hi;cases hl:listed.getD i false with|true=>rfl|false=>
      have hi':i<listed.size:=by omega
      have hm:i∈Region.ready .any ops.toArray listed:=by rw[mem_ready];refine⟨by simp[hi']at hl⊢;omega,ops[i],by simp[hi],λx hx hb=>?_⟩;have h1:=f2m hA hi;rw[qG hi]at h1;have h2:=qX.1 h1 x (Array.mem_toList_iff.2 hx);simp only[hb,qU,Bool.false_or,decide_eq_true_eq]at h2;exact ih x.on h2 (by omega)
      rw[hr]at hm;cases hm
 have hend:∀(listed:Array Bool)(ρ:Nat->A5)(w:World),listed.size=ops.length->Region.ready .any ops.toArray listed=[]->(∀t,(∀o∈ops,o.dst≠some t)->ρ t=ρ0 t)->(∃Z π,Rel E Z π (d0m (λk=>listed.getD k false) 0 es σ0) ρ w)->Q .normal (Frd n ρ ds) w:=by rintro listed ρ w hsz hr hk⟨Z,π,hR⟩;rw[e2q ops 0 σ0 σn es ht λj hj=>by simpa using hall listed hsz hr j hj]at hR;exact hQ Z π ρ w hk hR
 intro fuel;induction fuel with|zero=>
   intro listed ρ w hsz hlen hcl hk hJ;have hr:Region.ready .any ops.toArray listed=[]:=by cases hr:Region.ready .any ops.toArray listed with|nil=>rfl|cons x xs=>
      have hx:x∈Region.ready .any ops.toArray listed:=by rw[hr];simp
      have:=hlen [x] (by simp) (by simpa using(mem_ready.1 hx).1);simp at this
   exact⟨hr,hend listed ρ w hsz hr hk hJ⟩|succ fuel ih=>
   intro listed ρ w hsz hlen hcl hk hJ;refine⟨λhr=>hend listed ρ w hsz hr hk hJ,λi hi=>?_⟩;obtain⟨hun,o,ho,haft⟩:=mem_ready.1 hi;have ho':=by simpa using ho
   have hilt:i<ops.length:=(qD.1 ho').1;have hil:i<listed.size:=by omega
   have hunl:listed.getD i false=false:=by simp[hil]at hun⊢;omega
   obtain⟨Z,π,hR⟩:=hJ;have hilt':i<es.length:=by rw[ht.len];omega
   obtain⟨e,he⟩:∃e,es[i]?=some e:=⟨es[i],qG hilt'⟩;have hex:=e24 ops 0 σ0 σn es ht i o e ho' he;rw[Nat.zero_add]at hex;have hblt:∀j,listed.getD j false=true->j<ops.length:=λj hj=>by
    rcases Nat.lt_or_ge j listed.size with h1|h1;.omega
    .simp[Array.getD,Nat.not_lt.2 h1]at hj
   have hpre:∀j,(C.bef.getD i 0).testBit j=true->listed.getD j false=true:=λj hj=>by rw[hB]at hj;refine c9g hcl hblt i j hilt (λo' ho''=>?_) hj;rw[ho']at ho'';cases ho'';omega
   have hpost:∀j,j<ops.length->(C.bef.getD j 0).testBit i=true->listed.getD j false=false:=λj hj hb=>by cases hl:listed.getD j false with|false=>rfl|true=>rw[hB]at hb;have:=c9g hcl hblt j i hj (λo' ho''=>hcl j o' ho'' hl) hb;rw[hunl]at this;cases this
   have hjlt:∀(j:Nat)(e':En U),es[j]?=some e'->j<ops.length:=λj e' h=>by rw[<-ht.len];exact(qD.1 h).1
   have hagr:g7t (d0m (λk=>decide (k<i)) 0 es σ0) (d0m (λk=>listed.getD k false) 0 es σ0) e.m:=by
    have main:∀(k j:Nat)(e':En U),es[j]?=some e'->((∃m,k=2*m/\e'.d=some m)\/(∃id m,k=2*id+1/\lk id e'.ws=some m))->e.m.testBit k=true->listed.getD j false=decide (j<i):=by
     intro k j e' hj hw hr;rcases Nat.lt_trichotomy j i with hlt|heq|hgt
     .rcases hlg.pair hlt hj he with h1|h1;.rw[hpre j h1];simp[hlt]
      .exact((h1 k).2 hw hr).elim
     .rw[heq,hunl];simp
     .rcases hlg.pair hgt he hj with h1|h1;.rw[hpost j (hjlt j e' hj) h1];simp;omega
      .exact((h1 k).1 hw (.inl hr)).elim
    refine⟨λt hb=>c4f t es 0 σ0 σ0 rfl λj e' hj hd=>?_,λid hb=>c7j id es 0 σ0 σ0 rfl λj e' m hj hd=>?_⟩;.rw[Nat.zero_add];exact main (2*t) j e' hj (.inl ⟨t,rfl,hd⟩) hb
    .rw[Nat.zero_add];exact main (2*id+1) j e' hj (.inr ⟨id,m,rfl,hd⟩) hb
   have hstep:c88 P Φ C i o (d0m (λk=>listed.getD k false) 0 es σ0) e:=by
    refine⟨hex.1,?_⟩;rcases hex.2with h1|h1;.exact .inl (e3u h1 hagr)
    .exact .inr (e3u h1 hagr)
   refine f07 hU hΦ hT hS hC ho' hR hstep λZ' π' u w' hR'=>?_;have heq:∀k,(listed.setIfInBounds i true).getD k false=if k=i then true else listed.getD k false:=by
    intro k;by_cases hk:k=i;.subst hk;simp[hil]
    .rw[getD_set_ne false (Ne.symm hk)];simp[hk]
   have hww:∀(k j:Nat)(e':En U),i<j->es[j]?=some e'->((∃m,k=2*m/\e'.d=some m)\/(∃id m,k=2*id+1/\lk id e'.ws=some m))->((∃m,k=2*m/\e.d=some m)\/(∃id m,k=2*id+1/\lk id e.ws=some m))->listed.getD j false=false:=by
    intro k j e' hlt hj hw hw2;rcases hlg.pair hlt he hj with h1|h1;.exact hpost j (hjlt j e' hj) h1
    .exact((h1 k).1 hw (.inr hw2)).elim
   refine ih _ _ _ (by simpa using hsz) (λl hnd hl=>?_) (λj o' hoj hlj x hx hb=>?_) (λt ht'=>by rw[c9j,if_neg (by rw[hstep.1];exact ht' o (qE ho'))];exact hk t ht') ⟨Z',π',hR'.congr (by
    refine⟨λt=>.inr ?_,λid=>?_⟩
    .rw[s9];split;.rename_i hd;rw[d2c t es 0 i σ0 e he (by rw[Nat.zero_add,heq];simp) hd λj e' hj he' hd'=>?_];rw[Nat.zero_add,heq,if_neg (by omega)];exact hww (2*t) j e' hj he' (.inl ⟨t,rfl,hd'⟩) (.inl ⟨t,rfl,hd⟩)
     .rename_i hd;refine c4f t es 0 σ0 σ0 rfl λj e' hj hd'=>?_;rw[Nat.zero_add,heq,if_neg];intro hji;subst hji;rw[he]at hj;cases hj;exact hd hd'
    .rw[o8];cases hd:lk id e.ws with|some m=>refine(d1z id es 0 i σ0 e m he (by rw[Nat.zero_add,heq];simp) hd λj e' m' hj he' hd'=>?_).symm;rw[Nat.zero_add,heq,if_neg (by omega)];exact hww (2*id+1) j e' hj he' (.inr ⟨id,m',rfl,hd'⟩) (.inr ⟨id,m,rfl,hd⟩)|none=>refine(c7j id es 0 σ0 σ0 rfl λj e' m' hj hd'=>?_).symm;rw[Nat.zero_add,heq,if_neg];intro hji;subst hji;rw[he]at hj;cases hj;rw[hd]at hd';cases hd')⟩
   .have h1:=hlen (i::l) (by refine List.nodup_cons.2 ⟨λhm=>?_,hnd⟩;have:=hl i hm;simp[hil]at this) (by intro j hj;cases hj with|head=>omega|tail _ hj=>
       have h2:=hl j hj;by_cases hji:j=i;.subst hji;omega
       .rwa[getD_set_ne true (Ne.symm hji)]at h2);simpa using h1
   .rw[heq]at hlj⊢;split;.rfl
    .split at hlj;.rename_i hji;subst hji;rw[ho']at hoj;cases hoj;exact haft x hx hb
     .exact hcl j o' hoj hlj x hx hb
def e7n(hU:UOK U)(hΦ:OKΦ P Φ)(hm:P.follows .mixedOrders=true)(hT:Plan.okTmps ops n=true)(hS:Plan.okSel ops=true)(hA:Plan.okAfter ops=true){id:Nat}{draw:Bool}{R:Type}{σ:U.St}{K:U.St->A3 R}{r:R}{sp:O Nat}(h:d6q P Φ sp ops draw σ K=some r){Q:Exit->(Nat->A5)->World->Prop}{Z:Nat->Prop}{π ρ:Nat->A5}{w:World}(hK:∀σ' Z π ρ' w,(∀t,(∀o∈ops,o.dst≠some t)->ρ' t=ρ t)->Rel E Z π σ' ρ' w->K σ'=some r->Q .normal ρ' w)(hR:Rel E Z π σ ρ w):WP P n (.region id ops.toArray draw) Q ρ w:=by
 let ⟨C,hC⟩:∃C:RegC,C=⟨σ.nx,ops,befD ops draw,draw,σ.nx+16*ops.length,sp⟩:=⟨_,rfl⟩;have hrun:b5i P Φ C (ops.length+1) (b34 0 ops) [] [] σ (λ_ σ'=>K ⟨σ'.sl,σ'.me,σ.nx+16*ops.length⟩)=some r:=by rw[hC];exact h
 let ⟨es,σx,σe,hist,h1,h2,h3,h4,⟨lg,h5,h6,h7,h8⟩,hkp⟩:=a9x _ 0 ops [] [] σ _ r hrun (λj o ho=>by rw[hC,Nat.zero_add];omega) σ ⟨λt=>.inr rfl,λ_=>rfl⟩ c2k.nil;have hops:C.ops=ops:=by rw[hC]
 intro rr ds _;have hfin:∀Z π ρ1 w,(∀t,(∀o∈ops,o.dst≠some t)->ρ1 t=ρ t)->Rel E Z π σx ρ1 w->(∃ρ',Frd n ρ1 ds=Frd n ρ' ds/\Q _ ρ' w):=λZ π ρ1 w hk hR=>by
  refine⟨ρ1,rfl,hK _ Z π ρ1 w hk (Rel.congr hR ⟨λt=>?_,λid=>?_⟩) h4⟩;.exact h2.1 t
  .exact h2.2 id
 cases draw with|false=>refine wpIn_region ?_;have:=e3c (rr:=rr) (Q:=λe a w=>∃ρ',a=Frd n ρ' ds/\Q e ρ' w) hU hΦ hT hS hops ops 0 σ σx es h1 (λj o ho=>by rw[Nat.zero_add];omega) ρ hfin Z π ρ w (λ_ _=>rfl) hR;rw[range_eq_range'];omega|true=>
   refine wpIn_region_any hm ?_;have:=f8a (rr:=rr) (Q:=λe a w=>∃ρ',a=Frd n ρ' ds/\Q e ρ' w) hU hΦ hT hS hA hops (by rw[hC];rfl) h1 ⟨h7,λj e g he hg=>by have:=h8 j e g he hg;rwa[Nat.zero_add]at this,h6 (by rw[hC])⟩ hfin _ (Array.replicate ops.length false) ρ _ (by simp) (λl hnd hl=>c11 _ l hnd (by
      intro i hi;have h1:=hl i hi;rcases Nat.lt_or_ge i ops.length with h2|h2;.omega
      .simp[h2]at h1)) (λj o ho hl=>by
      rcases Nat.lt_or_ge j ops.length with h2|h2;.simp[h2]at hl
      .simp[h2]at hl) (λ_ _=>rfl) ⟨Z,π,by
      rw[c0k _ _ _ λi _=>by
       rcases Nat.lt_or_ge i ops.length with h2|h2;.simp[h2]
       .simp[h2]];exact (hR.val (d:=none) (a:=.unk) (v:=undef) (Ext.refl noG w).drew trivial)⟩;exact this
end
section
variable {P:Program} {U:Uni} {Φ:Phi U} {E:Env} {n:Nat}
def e4q{p:EK U.C}:∀(es:O (EK U.C))(x:p.T U)(xs:Keep U es),b0o es (g4k es x xs)=x|[],_,_=>rfl|_::_,_,_=>rfl
def e4g{p:EK U.C}:∀(es:O (EK U.C))(x:p.T U)(xs:Keep U es),a7c es (g4k es x xs)=xs|[],_,()=>rfl|_::_,_,_=>rfl
def a74{p:EK U.C}{es:O (EK U.C)}{x:A3 (p.T U)}{y:A3 (Keep U es)}{r:Keep U (p::es)}(h:d9f es x y=some r):x=some (b0o es r)/\y=some (a7c es r):=by
 unfold d9f at h;split at h
 .split at h;.cases h;rw[e4q,e4g];exact⟨rfl,rfl⟩
  .cases h
 .cases h
def a2k{α β:Type}{x:A3 α}{y:A3 β}{r:α×β}(h:d0u x y=some r):x=some r.1/\y=some r.2:=by
 unfold d0u at h;split at h
 .split at h;.cases h;exact⟨rfl,rfl⟩
  .cases h
 .cases h
def d1m(hU:UOK U){c:U.C}{a:U.AV}{x:U.T c}(hp:prj c a=some x):c1d a=true:=by cases a<;>first
  |rfl
  | (unfold prj at hp;cases hag:U.ag c<;>rw[hag]at hp<;>try(cases hp)
     have hk:=hU.mkl c _ x hp;have hkd:=hU.kind c x;cases hl:U.flds c x with|nil=>rw[hl]at hk;exact hk.elim|cons b r=>
       rw[hl]at hk hkd;simp [all_cons,qB]at hkd;rcases hk.1with h1|⟨h1,_⟩;.rw[<-h1]at hkd;cases hkd.1
       .cases h1)
def f00{X:Cx}{c:U.C}{a:U.AV}{l:O (U.T c)}(h:g2u c a=some l){u:A5}(hr:AVR X a u):k9 (Rp c) X.G X.w u l:=by
 unfold g2u at h;split at h;.let ⟨he,hx⟩:=a3i (G:=noG) (w:=X.w) h;subst he;subst hx;exact hr
 .cases h;exact .inl ⟨hr,rfl⟩
 .cases h
def e9f{E:Env}{Z:Nat->Prop}{π:Nat->A5}{σ:U.St}{ρ:Nat->A5}{w:World}(h:Rel E Z π σ ρ w){c:U.C}{t:Nat}{l:O (U.T c)}(hl:g40 σ c (σ.slot t)=some l):k9 (Rp c) (cx Z π σ w).G (cx Z π σ w).w (ρ t) l:=by
 have hs:=h.slot t;unfold g40 at hl;split at hl
 .rename_i id hsl;rw[hsl]at hs;split at hl;.rename_i c' l' hm;have hm':=h.mem id;rw[hm]at hm';let ⟨he,hx⟩:=a3i (G:=noG) (w:=w) hl;subst he;subst hx;rw[show ρ t=π id from hs.2.1];exact hm'
  .cases hl
 .exact f00 hl hs
structure KeepOK(Z:Nat->Prop)(π:Nat->A5)(σ:U.St)(ρ:Nat->A5)(w:World)(ren:O (Nat×Nat))(ids:O Nat)(σ':U.St)(π':Nat->A5):Prop where
 slot:∀X':Cx,X'.Z=Z->X'.w=w->X'.π=π'->(∀id,id∈ids\/(∃q∈ren,q.2=id)->X'.us id)->∀t,AVR X' (σ'.slot t) (ρ t)mem:∀X':Cx,X'.Z=Z->X'.w=w->X'.π=π'->(∀id,id∈ids\/(∃q∈ren,q.2=id)->X'.us id)->∀id,MR X' (σ'.mem id) (π' id)own:∀id b,MB (σ'.mem id) (π' id) b->id∈ids/\∃old,(∀q∈ren,q.1≠old)/\MB (σ.mem old) (π old) b
 dist:∀id id' b,id≠id'->MB (σ'.mem id) (π' id) b->¬MB (σ'.mem id') (π' id') b
 us:∀id∈ids,σ'.mem id≠.never
def f7a{Z:Nat->Prop}{π:Nat->A5}{σ:U.St}{ρ:Nat->A5}{w:World}(h:Rel E Z π σ ρ w){a:U.AV}{u:A5}(ha:b79 (cx Z π σ w) a u):b79 (cx Z π σ w) (g3s σ a) u:=by
 cases a<;>try exact ha
 rename_i id;simp [g3s];split;.rename_i c l hm;have hmm:=h.mem id;rw[hm]at hmm;let ⟨_,hu,_⟩:=ha;rw[hu];exact hmm
 .exact ha
def e8c{σ:U.St}(a:U.AV):a07 (g3s σ a)=a07 a:=by
 cases a<;>try rfl
 simp [g3s];split<;>rfl
def e5n{σ:U.St}{a:U.AV}(h:a03 a=true):a03 (g3s σ a)=true:=by
 cases a<;>try exact h
 simp [g3s];split<;>rfl
def f2k{Z:Nat->Prop}{π:Nat->A5}{σ:U.St}{ρ:Nat->A5}{w:World}(h:Rel E Z π σ ρ w){a:U.AV}{u:A5}(ha:a1p (cx Z π σ w) a u):a1p (cx Z π σ w) (stF σ a) u:=by
 cases a<;>try exact ha
 rename_i c fs;obtain⟨css,hu,hlay,hp,hr⟩:=ha;refine⟨css,hu,?_,?_,?_⟩;.rw[<-hlay,map_map];exact map_congr_left λa _=>e8c a
 .rw[qX]at hp⊢;intro a ha;obtain⟨b,hb,rfl⟩:=List.mem_map.1 ha;exact e5n (hp b hb)
 .clear hu hlay hp;induction fs generalizing css with
  |nil=>cases css with|nil=>trivial|cons _ _=>exact hr.elim
  |cons a fs ih=>cases css with|nil=>exact hr.elim|cons s css=>let ⟨u,hu,h1⟩:=hr.1;exact⟨⟨u,hu,f7a h h1⟩,ih css hr.2⟩
def d9u{σ:U.St}:∀fs:O U.AV,FZ σ (g0t σ fs)
 |[],id,m,h=>by cases h|a::fs,id,m,h=>by
   have skip:(id,m)∈g0t σ fs->∃e c l,σ.mem id=.sl e c l/\m=.fz c l:=λh=>d9u fs id m h;cases a<;>try exact skip h
   simp [g0t]at h;split at h
   .rename_i e c l hm;rcases qO.1 h with h|h;.cases h;exact⟨e,c,l,hm,rfl⟩
    .exact skip h
   .exact skip h
def b1j{i:Nat}{l:O Nat}(h:c6j (i::l)=true):i∉l/\c6j l=true:=by simp only[c6j,qB,Bool.not_eq_true']at h;refine⟨λhm=>?_,h.2⟩;have:=List.any_eq_true.2 ⟨i,hm,Nat.beq_refl i⟩;rw[h.1]at this;cases this
def g30{ren al:O (Nat×Nat)}{σ:U.St}(h:alOK ren σ al=true){t id:Nat}(hm:(t,id)∈al):∃id',σ.slot t=.ref id'/\(id',id)∈ren:=by
 have h1:=qX.1 h _ hm;split at h1;.rename_i id' hs;let ⟨q,hq,hq2⟩:=List.any_eq_true.1 h1;simp only[qB]at hq2;refine⟨id',hs,?_⟩;rw[<-(qC hq2.1),<-(qC hq2.2)];exact hq
 .cases h1
def g45{l:O (Nat×U.AV)}{me:O (Nat×U.MC)}{nx t:Nat}:(∃a,(t,a)∈l/\St.slot ⟨l,me,nx⟩ t=a)\/St.slot ⟨l,me,nx⟩ t=.unk:=by simp only[St.slot];cases hl:lk t l with|none=>exact .inr rfl|some a=>exact .inl ⟨a,b1x hl,rfl⟩
def c7n{Z:Nat->Prop}{π:Nat->A5}{σ:U.St}{ρ:Nat->A5}{w:World}(h:Rel E Z π σ ρ w){pins:O Nat}{ren ren':O (Nat×Nat)}{ids:O Nat}{id:Nat}{σr σ':U.St}{π0 π':Nat->A5}{hv:A5}{mc:U.MC}(hni:id∉ids)(g1:∀i,i∉ids->π' i=c0j π0 id hv i)(g2:KeepOK Z π σ ρ w ren' ids σr π')(g3:∀i∈pins,π' i=π i/\(i∈ids\/∃q∈ren',q.2=i))(hr1:∀q∈ren',q∈ren\/(q.2=id/\hv=π q.1))(hr2:∀q∈ren,q∈ren')(e0:∀i,σ'.mem i=if id=i then mc else σr.mem i)(hnn:mc≠.never)(hMR:∀X':Cx,X'.Z=Z->X'.w=w->X'.π=π'->(∀i,i∈ids\/(∃q∈ren',q.2=i)->X'.us i)->MR X' mc hv)(hMB:∀b,MB mc hv b->∃old,(∀q∈ren,q.1≠old)/\(∃q∈ren',q.1=old)/\MB (σ.mem old) (π old) b)(hsl:∀t,σ'.slot t=σr.slot t\/(σ'.slot t=.ref id/\ρ t=hv/\hv.oneCell'=true)):(∀i,i∉id::ids->π' i=π0 i)/\KeepOK Z π σ ρ w ren (id::ids) σ' π'/\(∀i∈pins,π' i=π i/\(i∈id::ids\/∃q∈ren,q.2=i)):=by
 have hid:π' id=hv:=by rw[g1 id hni,c0j,if_pos rfl]
 have hus':∀{us:Nat->Prop},(∀i,i∈id::ids\/(∃q∈ren,q.2=i)->us i)->∀i,i∈ids\/(∃q∈ren',q.2=i)->us i:=λhus i hi=>by
  rcases hi with hi|⟨q,hq,hq2⟩;.exact hus i (.inl (qJ _ hi))
  .rcases hr1 q hq with h1|⟨h1,_⟩;.exact hus i (.inr ⟨q,h1,hq2⟩)
   .exact hus i (.inl (by rw[<-hq2,h1];exact qI))
 refine⟨λi hi=>?_,⟨λX' e1 e2 e3 hus t=>?_,λX' e1 e2 e3 hus i=>?_,λi b hb=>?_,λi1 i2 b hne hb hb'=>?_,λi hi=>?_⟩,λi hi=>?_⟩;.simp [qO,not_or]at hi;rw[g1 i hi.2,c0j,if_neg hi.1]
 .rcases hsl t with e|⟨e,hρ,hone⟩;.rw[e];exact g2.slot X' e1 e2 e3 (hus' hus) t
  .rw[e];exact⟨hus id (.inl qI),by rw[e3,hid];exact hρ,by rw[hρ];exact hone⟩
 .rw[e0];split;.rename_i e';subst e';rw[hid];exact hMR X' e1 e2 e3 (hus' hus)
  .exact g2.mem X' e1 e2 e3 (hus' hus) i
 .rw[e0]at hb;split at hb;.rename_i e';subst e';rw[hid]at hb;let ⟨old,h1,_,h2⟩:=hMB b hb;exact⟨qI,old,h1,h2⟩
  .let ⟨h1,old,h2,h3⟩:=g2.own i b hb;exact⟨qJ _ h1,old,λq hq=>h2 q (hr2 q hq),h3⟩
 .rw[e0]at hb hb';split at hb;.rename_i e1;subst e1;rw[if_neg hne]at hb';rw[hid]at hb;let ⟨old,_,⟨q,hq,hq2⟩,h3⟩:=hMB b hb;let ⟨_,old',h2,h4⟩:=g2.own i2 b hb';exact h.dist old _ b (λe=>h2 q hq (by rw[hq2,e])) h3 h4
  .split at hb';.rename_i e1 e2;subst e2;rw[hid]at hb';let ⟨old,_,⟨q,hq,hq2⟩,h3⟩:=hMB b hb';let ⟨_,old',h2,h4⟩:=g2.own i1 b hb;exact h.dist old _ b (λe=>h2 q hq (by rw[hq2,e])) h3 h4
   .exact g2.dist i1 i2 b hne hb hb'
 .rw[e0];split;.exact hnn
  .rename_i hne;rcases qO.1 hi with h1|h1;.exact absurd h1.symm hne
   .exact g2.us i h1
 .let ⟨h1,h2⟩:=g3 i hi;refine⟨h1,?_⟩;rcases h2 with h2|⟨q,hq,hq2⟩;.exact .inl (qJ _ h2)
  .rcases hr1 q hq with h3|⟨h3,_⟩;.exact .inr ⟨q,h3,hq2⟩
   .exact .inl (by rw[<-hq2,h3];exact qI)
def e8e(hU:UOK U){X X':Cx}(e1:X'.Z=X.Z)(e2:X'.w=X.w):∀{cs:O U.C}{as:O U.AV}{x:CapT U cs}{vs:O A5},h1x cs as=some x->y7 (a1p X) as vs->y7 (a1p X') (f3e cs x) vs|[],[],_,[],_,_=>trivial|[],[],_,_::_,_,h=>h.elim|[],_::_,_,_,hd,_=>by cases hd|_::_,[],_,_,hd,_=>by cases hd|c::cs,a::as,x,[],_,h=>h.elim|c::cs,a::as,x,v::vs,hd,h=>by cases a with
   |rp b=>
     have hd:(match prj c b with|some x=>(match h1x cs as with|some xs=>some _|none=>none)|none=>none)=some x:=hd;split at hd
     .rename_i y hp;split at hd;.rename_i ys hq;obtain rfl:=qH hd;let ⟨⟨ad,ks,hv,hb,hg,hca,hr⟩,h4⟩:=h;let ⟨u1,hu1,hr1⟩:=a18 hr;have h3:=b85 hU hp hr1;rw[hu1]at h3;refine⟨⟨ad,ks,hv,by rw[e2];exact hb,by unfold Cx.G;rw[e1];exact hg,by rw[e2];exact hca,?_⟩,e8e hU e1 e2 hq h4⟩;unfold Cx.G;rw[e1,e2];exact b6w hU h3
      .cases hd
     .cases hd|_=>cases hd
def e7m{X X':Cx}{ren:O (Nat×Nat)}(hr:∀q∈ren,X'.us q.2/\X'.π q.2=X.π q.1):∀{as:O U.AV}{is:O Nat}{vs:O A5},e2k ren as is=true->y7 (a1p X) as vs->y7 (a1p X') (is.map (AV.ref:Nat->U.AV)) vs|[],[],[],_,_=>trivial|.ref j::as,i::is,v::vs,h,ha=>by simp only[e2k,qB]at h;let ⟨q,hq,hq2⟩:=List.any_eq_true.1 h.1;simp only[qB]at hq2;have e2:=qC hq2.2;let ⟨h1,h2⟩:=hr q hq;refine⟨⟨by rw[<-e2];exact h1,?_,ha.1.2.2⟩,e7m hr h.2 ha.2⟩;rw[<-e2,h2,(qC hq2.1)];exact ha.1.2.1|[],_::_,_,h,_=>by cases h|[],[],_::_,_,ha=>ha.elim|a::_,[],_,h,_=>by cases a<;>cases h|_::_,_::_,[],_,ha=>ha.elim
def b3r(hU:UOK U){Z:Nat->Prop}{π:Nat->A5}{σ:U.St}{ρ:Nat->A5}{w:World}(h:Rel E Z π σ ρ w){pins:O Nat}{al:O (Nat×Nat)}:∀(es:O (EK U.C))(ren:O (Nat×Nat))(s:Keep U es)(π0:Nat->A5),c64 pins al es ren σ=some s->c6j (b37 es)=true->(∀q∈ren,q.2∉b37 es)->(∀q∈ren,π0 q.2=π q.1)->∃π':Nat->A5,(∀id,id∉b37 es->π' id=π0 id)/\KeepOK Z π σ ρ w ren (b37 es) (b64 al es s) π'/\(∀i∈pins,π' i=π i/\(i∈b37 es\/∃q∈ren,q.2=i))
 |[],ren,s,π0,hd,_,_,hπ0=>by
   simp only[c64]at hd;split at hd
   .rename_i hp;simp only[qB]at hp;refine⟨π0,λ_ _=>rfl,⟨λX' e1 e2 e3 hus t=>?_,λ_ _ _ _ _ _=>trivial,λ_ _ h=>h.elim,λ_ _ _ _ h=>h.elim,λ_ h=>by cases h⟩,λi hi=>?_⟩
    .rcases g45 (l:=al.map λa=>(a.1,(.ref a.2:U.AV))) (me:=[]) (nx:=al.foldl (λm a=>max m (a.2+1)) 0) (t:=t)with⟨a,ha,he⟩|he;.obtain⟨⟨t',id⟩,hm,e⟩:=List.mem_map.1 ha;simp only[Prod.mk.injEq]at e;obtain⟨rfl,rfl⟩:=e;obtain⟨id',hs,hr⟩:=g30 hp.2 hm;have hst:=h.slot t';rw[hs]at hst;show AVR X' (St.slot ⟨_,_,_⟩ t') _;rw[he];refine⟨hus id (.inr ⟨_,hr,rfl⟩),?_,hst.2.2⟩;rw[e3,hπ0 _ hr];exact hst.2.1
     .show AVR X' (St.slot ⟨_,_,_⟩ t) _;rw[he];trivial
    .obtain⟨q,hq,hq2⟩:=List.any_eq_true.1 (qX.1 hp.1 i hi);simp only[qB]at hq2;have h1:=qC hq2.1;have h2:=qC hq2.2;refine⟨?_,.inr ⟨q,hq,h2⟩⟩;have:=hπ0 q hq;rwa[h1,h2]at this
   .cases hd|.v t c::es,ren,s,π0,hd,hn,hren,hπ0=>by
   obtain⟨h1,h2⟩:=a74 hd;obtain⟨π',g1,g2,g3⟩:=b3r hU h es ren (a7c es s) π0 h2 hn hren hπ0;refine⟨π',g1,⟨λX' e1 e2 e3 hus t'=>?_,g2.mem,g2.own,g2.dist,g2.us⟩,g3⟩;show AVR X' (St.slot ⟨(t,inj c (b0o es s))::(b64 al es (a7c es s)).sl,_,_⟩ t') _;rw[y8];split;.rename_i e;subst e;have hs:=h.slot t;exact AVR.of1 (b0h (a1w hU c (b0o es s)).1 (c3i hU h1 (a8m (d1m hU h1) hs)) e2 (by rw[e1];exactλ_ h=>h))
   .exact g2.slot X' e1 e2 e3 hus t'|.ls t c::es,ren,s,π0,hd,hn,hren,hπ0=>by
   obtain⟨h1,h2⟩:=a74 hd;obtain⟨π',g1,g2,g3⟩:=b3r hU h es ren (a7c es s) π0 h2 hn hren hπ0;refine⟨π',g1,⟨λX' e1 e2 e3 hus t'=>?_,g2.mem,g2.own,g2.dist,g2.us⟩,g3⟩;show AVR X' (St.slot ⟨(t,.list c (b0o es s))::(b64 al es (a7c es s)).sl,_,_⟩ t') _;rw[y8];split;.rename_i e;subst e;have:=e9f h h1;show k9 (Rp c) X'.G X'.w _ _;unfold Cx.G;rw[e1,e2];exact this
   .exact g2.slot X' e1 e2 e3 hus t'|.rp t c::es,ren,s,π0,hd,hn,hren,hπ0=>by
   simp only[c64]at hd;split at hd
   .rename_i b hsl;obtain⟨h1,h2⟩:=a74 hd;obtain⟨π',g1,g2,g3⟩:=b3r hU h es ren (a7c es s) π0 h2 hn hren hπ0;refine⟨π',g1,⟨λX' e1 e2 e3 hus t'=>?_,g2.mem,g2.own,g2.dist,g2.us⟩,g3⟩;show AVR X' (St.slot ⟨(t,.rp (inj c (b0o es s)))::(b64 al es (a7c es s)).sl,_,_⟩ t') _;rw[y8];split;.rename_i e;subst e;have hs:=h.slot t;rw[hsl]at hs;obtain⟨ad,cs,hv,hb,hg,hca,hr⟩:=hs;obtain⟨u1,hu1,hr1⟩:=a18 hr;have h3:=b85 hU h1 hr1;rw[hu1]at h3;refine⟨ad,cs,hv,by rw[e2];exact hb,by unfold Cx.G;rw[e1];exact hg,by rw[e2];exact hca,?_⟩;unfold Cx.G;rw[e1,e2];exact b6w hU h3
    .exact g2.slot X' e1 e2 e3 hus t'
   .cases hd|.ow t id e c::es,ren,s,π0,hd,hn,hren,hπ0=>by
   obtain⟨hni,hnd⟩:=b1j (i:=id) (l:=b37 es) hn;have hren':∀q∈ren,q.2≠id/\q.2∉b37 es:=λq hq=>by have:=hren q hq;simp only[b37,qO,not_or]at this;exact this
   obtain⟨x,hx0⟩:∃x:O (U.T c),x=b0o es s:=⟨_,rfl⟩;obtain⟨xs,hxs0⟩:∃xs:Keep U es,xs=a7c es s:=⟨_,rfl⟩;have e0:∀i,(b64 al (.ow t id e c::es) s).mem i=if id=i then .sl e c x else(b64 al es xs).mem i:=λi=>by rw[hx0,hxs0];exact mem_cons
   have key:∀(ren':O (Nat×Nat))(hv:A5),c64 pins al es ren' σ=some xs->(∀q∈ren',q∈ren\/(q.2=id/\hv=π q.1))->(∀q∈ren,q∈ren')->ρ t=hv->hv.oneCell'=true->MR (cx Z π σ w) (.sl e c x) hv->(∀b,MB (.sl e c x:U.MC) hv b->∃old,(∀q∈ren,q.1≠old)/\(∃q∈ren',q.1=old)/\MB (σ.mem old) (π old) b)->∃π':Nat->A5,(∀id',id'∉b37 (.ow t id e c::es)->π' id'=π0 id')/\KeepOK Z π σ ρ w ren (b37 (.ow t id e c::es)) (b64 al (.ow t id e c::es) s) π'/\(∀i∈pins,π' i=π i/\(i∈b37 (.ow t id e c::es)\/∃q∈ren,q.2=i)):=by
    intro ren' hv hdk hr1 hr2 hρ hone hMR hMBs;obtain⟨π',g1,g2,g3⟩:=b3r hU h es ren' xs (c0j π0 id hv) hdk hnd (λq hq=>by
     rcases hr1 q hq with h1|⟨h1,_⟩;.exact(hren' q h1).2
     .rw[h1];exact hni) (λq hq=>by
     rcases hr1 q hq with h1|⟨h1,h2⟩;.rw[c0j,if_neg (hren' q h1).1];exact hπ0 q h1
     .rw[h1,c0j,if_pos rfl];exact h2);have hid:π' id=hv:=by rw[g1 id hni,c0j,if_pos rfl]
    refine⟨π',λid' hid'=>?_,⟨λX' e1 e2 e3 hus t'=>?_,λX' e1 e2 e3 hus id'=>?_,λid' b hb=>?_,λi1 i2 b hne hb hb'=>?_,λid' hid'=>?_⟩,λi hi=>?_⟩;.simp only[b37,qO,not_or]at hid';rw[g1 id' hid'.2,c0j,if_neg hid'.1]
    .show AVR X' (St.slot ⟨(t,.ref id)::(b64 al es (a7c es s)).sl,_,_⟩ t') _;rw[y8];split;.rename_i e';subst e';refine⟨hus id (.inl (by simp[b37])),?_,by rw[hρ];exact hone⟩;rw[e3,hid];exact hρ
     .rw[<-hxs0];refine g2.slot X' e1 e2 e3 (λid' hid'=>?_) t';rcases hid' with hid'|⟨q,hq,hq2⟩;.exact hus id' (.inl (by simp[b37,hid']))
      .rcases hr1 q hq with h1|⟨h1,_⟩;.exact hus id' (.inr ⟨q,h1,hq2⟩)
       .exact hus id' (.inl (by simp[b37,<-hq2,h1]))
    .rw[e0];split;.rename_i e';subst e';rw[hid];obtain⟨css,hO,hr⟩:=hMR;refine⟨css,by rw[e2];exact hO,?_⟩;unfold Cx.G;rw[e1,e2];exact hr
     .refine g2.mem X' e1 e2 e3 (λid' hid'=>?_) id';rcases hid' with hid'|⟨q,hq,hq2⟩;.exact hus id' (.inl (by simp[b37,hid']))
      .rcases hr1 q hq with h1|⟨h1,_⟩;.exact hus id' (.inr ⟨q,h1,hq2⟩)
       .exact hus id' (.inl (by simp[b37,<-hq2,h1]))
    .rw[e0]at hb;split at hb;.rename_i e';subst e';rw[hid]at hb;obtain⟨old,h1,_,h2⟩:=hMBs b hb;exact⟨by simp[b37],old,h1,h2⟩
     .obtain⟨h1,old,h2,h3⟩:=g2.own id' b hb;exact⟨by simp[b37,h1],old,λq hq=>h2 q (hr2 q hq),h3⟩
    .rw[e0]at hb hb';split at hb;.rename_i e1;subst e1;rw[if_neg hne]at hb';rw[hid]at hb;obtain⟨old,_,⟨q,hq,hq2⟩,h3⟩:=hMBs b hb;obtain⟨_,old',h2,h4⟩:=g2.own i2 b hb';exact h.dist old old' b (λe=>h2 q hq (by rw[hq2,e])) h3 h4
     .split at hb';.rename_i e1 e2;subst e2;rw[hid]at hb';obtain⟨old,_,⟨q,hq,hq2⟩,h3⟩:=hMBs b hb';obtain⟨_,old',h2,h4⟩:=g2.own i1 b hb;exact h.dist old old' b (λe=>h2 q hq (by rw[hq2,e])) h3 h4
      .exact g2.dist i1 i2 b hne hb hb'
    .rw[e0];simp only[b37,qO]at hid';split;.intro h;cases h
     .rename_i hne;rcases hid' with h1|h1;.exact absurd h1.symm hne
      .exact g2.us id' h1
    .obtain⟨h1,h2⟩:=g3 i hi;refine⟨h1,?_⟩;rcases h2 with h2|⟨q,hq,hq2⟩;.exact .inl (by simp[b37,h2])
     .rcases hr1 q hq with h3|⟨h3,_⟩;.exact .inr ⟨q,h3,hq2⟩
      .exact .inl (by simp[b37,<-hq2,h3])
   have hs:=h.slot t;simp only[c64]at hd;split at hd
   .rename_i hsl;obtain⟨h1,h2⟩:=a74 hd;rw[hsl]at hs;have hs:ρ t=.slice none 0 0:=hs;have hx:x=[]:=by rw[hx0];exact(qH h1).symm
    rw[<-hxs0]at h2;refine key ren (.slice none 0 0) h2 (λq hq=>.inl hq) (λq hq=>hq) hs rfl ⟨[],Own.nil _ _ _ _ _,by rw[hx];trivial⟩ (λb hb=>by cases hb)
   .rename_i id' hsl;rw[hsl]at hs;split at hd
    .rename_i e' c' l hany hmem;split at hd
     .rename_i hbe;have hee:=qC hbe;obtain⟨h1,h2⟩:=a74 hd;rw[<-hxs0]at h2;have h1:b8i c l=some x:=by rw[hx0];exact h1
      obtain⟨he,hx⟩:=a3i (G:=noG) (w:=w) h1;have hm:=h.mem id';rw[hmem]at hm;have hm':MR (cx Z π σ w) (.sl e c x) (π id'):=by rw[hee,hx];clear key h1 hx hd e0 hx0;subst he;exact hm
      have hb':∀b,MB (.sl e c x:U.MC) (π id') b->MB (σ.mem id') (π id') b:=λb hb=>by rw[hmem];exact hb
      refine key ((id',id)::ren) (π id') h2 (λq hq=>?_) (λq hq=>qJ _ hq) hs.2.1 (by have h9:=hs.2.2;rw[show ρ t=π id' from hs.2.1]at h9;exact h9) hm' (λb hb=>⟨id',λq hq e1=>?_,⟨_,qI,rfl⟩,hb' b hb⟩)
      .rcases qO.1 hq with e1|e1;.right;rw[e1];exact⟨rfl,rfl⟩
       .exact .inl e1
      .have:(ren.any λq=>Nat.beq q.1 id')=true:=List.any_eq_true.2 ⟨q,hq,by rw[e1];exact Nat.beq_refl id'⟩;rw[hany]at this;cases this
     .cases hd
    .cases hd
   .cases hd|.bx t id ty c::es,ren,s,π0,hd,hn,hren,hπ0=>by
   obtain⟨hni,hnd⟩:=b1j (i:=id) (l:=b37 es) hn;have hren':∀q∈ren,q.2≠id/\q.2∉b37 es:=λq hq=>by have:=hren q hq;simp only[b37,qO,not_or]at this;exact this
   have hs:=h.slot t;simp only[c64]at hd;split at hd
   .rename_i id' hsl;rw[hsl]at hs;split at hd
    .rename_i ty' bb hany hmem;split at hd
     .rename_i hbe;have hee:=qC hbe;subst hee;obtain⟨hp,hdk⟩:=a74 hd;have hnew:∀q∈ren,q.1≠id':=λq hq e1=>by have:(ren.any λq=>Nat.beq q.1 id')=true:=List.any_eq_true.2 ⟨q,hq,by rw[e1];exact Nat.beq_refl id'⟩;rw[hany]at this;cases this
      obtain⟨π',g1,g2,g3⟩:=b3r hU h es ((id',id)::ren) (a7c es s) (c0j π0 id (π id')) hdk hnd (λq hq=>by
       rcases qO.1 hq with e1|e1;.rw[e1];exact hni
       .exact(hren' q e1).2) (λq hq=>by
       rcases qO.1 hq with e1|e1;.rw[e1];exact if_pos rfl
       .rw[c0j,if_neg (hren' q e1).1];exact hπ0 q e1);have hid:π' id=π id':=by rw[g1 id hni,c0j,if_pos rfl]
      have hm:=h.mem id';rw[hmem]at hm;have e0:∀i,(b64 al (.bx t id ty c::es) s).mem i=if id=i then .box ty (inj c (b0o es s))else(b64 al es (a7c es s)).mem i:=λi=>mem_cons;refine⟨π',λi hi=>?_,⟨λX' e1 e2 e3 hus t'=>?_,λX' e1 e2 e3 hus i=>?_,λi b hb=>?_,λi1 i2 b hne hb hb'=>?_,λi hi=>?_⟩,λi hi=>?_⟩;.simp only[b37,qO,not_or]at hi;rw[g1 i hi.2,c0j,if_neg hi.1]
      .show AVR X' (St.slot ⟨(t,.ref id)::(b64 al es (a7c es s)).sl,_,_⟩ t') _;rw[y8];split;.rename_i e';subst e';refine⟨hus id (.inl (by simp[b37])),?_,hs.2.2⟩;rw[e3,hid];exact hs.2.1
       .refine g2.slot X' e1 e2 e3 (λi hi=>?_) t';rcases hi with hi|⟨q,hq,hq2⟩;.exact hus i (.inl (by simp[b37,hi]))
        .rcases qO.1 hq with e'|e';.rw[e']at hq2;exact hus i (.inl (by simp[b37,<-hq2]))
         .exact hus i (.inr ⟨q,e',hq2⟩)
      .rw[e0];split;.rename_i e';subst e';rw[hid];obtain⟨blk,u,hv,hM,hr⟩:=hm;refine⟨blk,u,hv,by rw[e2];exact hM,b0h (a1w hU c _).1 (c3i hU hp (f2k h hr)) e2 (by rw[e1];exactλ_ h=>h)⟩
       .refine g2.mem X' e1 e2 e3 (λi hi=>?_) i;rcases hi with hi|⟨q,hq,hq2⟩;.exact hus i (.inl (by simp[b37,hi]))
        .rcases qO.1 hq with e'|e';.rw[e']at hq2;exact hus i (.inl (by simp[b37,<-hq2]))
         .exact hus i (.inr ⟨q,e',hq2⟩)
      .rw[e0]at hb;split at hb;.rename_i e';subst e';rw[hid]at hb;exact⟨by simp[b37],id',hnew,by rw[hmem];exact hb⟩
       .obtain⟨h1,old,h2,h3⟩:=g2.own i b hb;exact⟨by simp[b37,h1],old,λq hq=>h2 q (qJ _ hq),h3⟩
      .rw[e0]at hb hb';split at hb;.rename_i e1;subst e1;rw[if_neg hne]at hb';rw[hid]at hb;obtain⟨_,old',h2,h4⟩:=g2.own i2 b hb';exact h.dist id' old' b (h2 _ qI) (by rw[hmem];exact hb) h4
       .split at hb';.rename_i e1 e2;subst e2;rw[hid]at hb';obtain⟨_,old',h2,h4⟩:=g2.own i1 b hb;exact h.dist id' old' b (h2 _ qI) (by rw[hmem];exact hb') h4
        .exact g2.dist i1 i2 b hne hb hb'
      .rw[e0];simp only[b37,qO]at hi;split;.intro h;cases h
       .rename_i hne;rcases hi with h1|h1;.exact absurd h1.symm hne
        .exact g2.us i h1
      .obtain⟨h1,h2⟩:=g3 i hi;refine⟨h1,?_⟩;rcases h2 with h2|⟨q,hq,hq2⟩;.exact .inl (by simp[b37,h2])
       .rcases qO.1 hq with e'|e';.rw[e']at hq2;exact .inl (by simp[b37,<-hq2])
        .exact .inr ⟨q,e',hq2⟩
     .cases hd
    .cases hd
   .cases hd|.of t f id e c::es,ren,s,π0,hd,hn,hren,hπ0=>by
   obtain⟨hni,hnd⟩:=b1j (i:=id) (l:=b37 es) hn;have hren':∀q∈ren,q.2≠id/\q.2∉b37 es:=λq hq=>by have:=hren q hq;simp only[b37,qO,not_or]at this;exact this
   simp only[c64]at hd;split at hd;case h_2=>cases hd
   rename_i bid hsl;split at hd;case h_2=>cases hd
   rename_i bty bc fs hbm;split at hd;case h_2=>cases hd
   rename_i id' hra;split at hd;case h_2=>cases hd
   rename_i e' c' l hany hmem;split at hd;case h_2=>cases hd
   rename_i hbe;have hee:=qC hbe;subst hee;obtain⟨h1,h2⟩:=a74 hd;have hnew:∀q∈ren,q.1≠id':=λq hq e1=>by have:(ren.any λq=>Nat.beq q.1 id')=true:=List.any_eq_true.2 ⟨q,hq,by rw[e1];exact Nat.beq_refl id'⟩;rw[hany]at this;cases this
   obtain⟨π',g1,g2,g3⟩:=b3r hU h es ((id',id)::ren) (a7c es s) (c0j π0 id (π id')) h2 hnd (λq hq=>by
    rcases qO.1 hq with e1|e1;.rw[e1];exact hni
    .exact(hren' q e1).2) (λq hq=>by
    rcases qO.1 hq with e1|e1;.rw[e1];exact if_pos rfl
    .rw[c0j,if_neg (hren' q e1).1];exact hπ0 q e1);have hm:=h.mem id';rw[hmem]at hm;obtain⟨hx,hx0⟩:∃x:O (U.T c),x=b0o es s:=⟨_,rfl⟩;have h1:b8i c l=some hx:=by rw[hx0];exact h1
   obtain⟨hcc,hxl⟩:=a3i (G:=noG) (w:=w) h1;refine⟨π',c7n (mc:=.sl e c (b0o es s)) h hni g1 g2 g3 (λq hq=>?_) (λq hq=>qJ _ hq) (λi=>mem_cons) (λh=>by cases h) (λX' e1 e2 _ _=>?_) (λb hb=>⟨id',hnew,⟨_,qI,rfl⟩,by rw[hmem];exact hb⟩) λt=>.inl rfl⟩
   .rcases qO.1 hq with e1|e1;.right;rw[e1];exact⟨rfl,rfl⟩
    .exact .inl e1
   .rw[<-hx0,hxl];clear h1 hxl hx0 hd g1 g2 g3;subst hcc;obtain⟨css,hO,hr⟩:=hm;refine⟨css,by rw[e2];exact hO,?_⟩;unfold Cx.G;rw[e1,e2];exact hr|.cl t f cs::es,ren,s,π0,hd,hn,hren,hπ0=>by
   simp only[c64]at hd;split at hd;case h_2=>cases hd
   rename_i f' as hsl;split at hd;case h_2=>cases hd
   rename_i hbe;have hee:=qC hbe;subst hee;obtain⟨h1,h2⟩:=a74 hd;obtain⟨π',g1,g2,g3⟩:=b3r hU h es ren (a7c es s) π0 h2 hn hren hπ0;refine⟨π',g1,⟨λX' e1 e2 e3 hus t'=>?_,g2.mem,g2.own,g2.dist,g2.us⟩,g3⟩;show AVR X' (St.slot ⟨(t,.clo f (f3e cs (b0o es s)))::(b64 al es (a7c es s)).sl,_,_⟩ t') _;rw[y8];split;.rename_i e;subst e;have hs:=h.slot t;rw[hsl]at hs;obtain⟨vs,hv,hr⟩:=hs;exact⟨vs,hv,e8e hU e1 e2 h1 hr⟩
   .exact g2.slot X' e1 e2 e3 hus t'|.cr t f is::es,ren,s,π0,hd,hn,hren,hπ0=>by
   simp only[c64]at hd;split at hd;case h_2=>cases hd
   rename_i f' as hsl;split at hd;case h_2=>cases hd
   rename_i hck;simp only[qB]at hck;have hee:=qC hck.1;subst hee;obtain⟨h1,h2⟩:=a74 hd;obtain⟨π',g1,g2,g3⟩:=b3r hU h es ren (a7c es s) π0 h2 hn hren hπ0;refine⟨π',g1,⟨λX' e1 e2 e3 hus t'=>?_,g2.mem,g2.own,g2.dist,g2.us⟩,g3⟩;show AVR X' (St.slot ⟨(t,.clo f (is.map .ref))::(b64 al es (a7c es s)).sl,_,_⟩ t') _;rw[y8];split;.rename_i e;subst e;have hs:=h.slot t;rw[hsl]at hs;obtain⟨vs,hv,hr⟩:=hs;refine⟨vs,hv,e7m (λq hq=>⟨hus q.2 (.inr ⟨q,hq,rfl⟩),?_⟩) hck.2 hr⟩;rw[e3];show π' q.2=π q.1;rw[g1 q.2 (hren q hq),hπ0 q hq]
   .exact g2.slot X' e1 e2 e3 hus t'|.vw t id c::es,ren,s,π0,hd,hn,hren,hπ0=>by
   simp only[c64]at hd;split at hd;case h_2=>cases hd
   rename_i id' c' lo n hsl;split at hd;case h_2=>cases hd
   rename_i hck;simp only[qB]at hck;have hcc:=c0a hck.2;subst hcc;obtain⟨q,hq,hq2⟩:=List.any_eq_true.1 hck.1;simp only[qB]at hq2;have q1:=qC hq2.1;have q2:=qC hq2.2;obtain⟨h1,h2⟩:=a74 hd;have h1:(lo,n)=b0o es s:=qH h1;obtain⟨π',g1,g2,g3⟩:=b3r hU h es ren (a7c es s) π0 h2 hn hren hπ0;refine⟨π',g1,⟨λX' e1 e2 e3 hus t'=>?_,g2.mem,g2.own,g2.dist,g2.us⟩,g3⟩;show AVR X' (St.slot ⟨(t,.vw id c (b0o es s).1 (b0o es s).2)::(b64 al es (a7c es s)).sl,_,_⟩ t') _;rw[y8];split
   .rename_i e;subst e;have hs:=h.slot t;rw[hsl]at hs;refine⟨hus id (.inr ⟨q,hq,q2⟩),?_⟩;have hp:X'.π id=π id':=by rw[e3];show π' id=π id';rw[<-q2,g1 q.2 (hren q hq),hπ0 q hq,q1]
    rw[<-h1,hp];exact hs.2
   .exact g2.slot X' e1 e2 e3 hus t'|.mp t id::es,ren,s,π0,hd,hn,hren,hπ0=>by
   obtain⟨hni,hnd⟩:=b1j (i:=id) (l:=b37 es) hn;have hren':∀q∈ren,q.2≠id/\q.2∉b37 es:=λq hq=>by have:=hren q hq;simp only[b37,qO,not_or]at this;exact this
   have hs:=h.slot t;simp only[c64]at hd;split at hd;case h_2=>cases hd
   rename_i id' hsl;rw[hsl]at hs;split at hd;case h_2=>cases hd
   rename_i l0 hany hmem;obtain⟨h1,h2⟩:=a74 hd;have hnew:∀q∈ren,q.1≠id':=λq hq e1=>by have:(ren.any λq=>Nat.beq q.1 id')=true:=List.any_eq_true.2 ⟨q,hq,by rw[e1];exact Nat.beq_refl id'⟩;rw[hany]at this;cases this
   obtain⟨π',g1,g2,g3⟩:=b3r hU h es ((id',id)::ren) (a7c es s) (c0j π0 id (π id')) h2 hnd (λq hq=>by
    rcases qO.1 hq with e1|e1;.rw[e1];exact hni
    .exact(hren' q e1).2) (λq hq=>by
    rcases qO.1 hq with e1|e1;.rw[e1];exact if_pos rfl
    .rw[c0j,if_neg (hren' q e1).1];exact hπ0 q e1);have hm:=h.mem id';rw[hmem]at hm;have h1:l0=b0o es s:=qH h1;refine⟨π',c7n (mc:=.mp (b0o es s)) h hni g1 g2 g3 (λq hq=>?_) (λq hq=>qJ _ hq) (λi=>mem_cons) (λh=>by cases h) (λX' e1 e2 _ _=>?_) (λb hb=>⟨id',hnew,⟨_,qI,rfl⟩,by rw[hmem];exact hb⟩) λt'=>?_⟩
   .rcases qO.1 hq with e1|e1;.right;rw[e1];exact⟨rfl,rfl⟩
    .exact .inl e1
   .rw[<-h1];obtain⟨b,hv,h0,hb⟩:=hm;exact⟨b,hv,h0,by rw[e2];exact hb⟩
   .show St.slot ⟨(t,.ref id)::(b64 al es (a7c es s)).sl,_,_⟩ t'=_\/_;by_cases e':t=t';.subst e';refine .inr ⟨?_,hs.2.1,(show ρ t=π id' from hs.2.1)▸hs.2.2⟩;show St.slot ⟨(t,.ref id)::(b64 al es (a7c es s)).sl,_,_⟩ t=_;rw[y8,if_pos rfl]
    .left;rw[y8,if_neg e'];rfl|.it t id::es,ren,s,π0,hd,hn,hren,hπ0=>by
   obtain⟨hni,hnd⟩:=b1j (i:=id) (l:=b37 es) hn;have hren':∀q∈ren,q.2≠id/\q.2∉b37 es:=λq hq=>by have:=hren q hq;simp only[b37,qO,not_or]at this;exact this
   have hs:=h.slot t;simp only[c64]at hd;split at hd;case h_2=>cases hd
   rename_i id' hsl;rw[hsl]at hs;split at hd;case h_2=>cases hd
   rename_i str p hany hmem;obtain⟨h1,h2⟩:=a74 hd;have hnew:∀q∈ren,q.1≠id':=λq hq e1=>by have:(ren.any λq=>Nat.beq q.1 id')=true:=List.any_eq_true.2 ⟨q,hq,by rw[e1];exact Nat.beq_refl id'⟩;rw[hany]at this;cases this
   obtain⟨π',g1,g2,g3⟩:=b3r hU h es ((id',id)::ren) (a7c es s) (c0j π0 id (π id')) h2 hnd (λq hq=>by
    rcases qO.1 hq with e1|e1;.rw[e1];exact hni
    .exact(hren' q e1).2) (λq hq=>by
    rcases qO.1 hq with e1|e1;.rw[e1];exact if_pos rfl
    .rw[c0j,if_neg (hren' q e1).1];exact hπ0 q e1);have hm:=h.mem id';rw[hmem]at hm;have h1:(str,p)=b0o es s:=qH h1;refine⟨π',c7n (mc:=.it (b0o es s).1 (b0o es s).2) h hni g1 g2 g3 (λq hq=>?_) (λq hq=>qJ _ hq) (λi=>mem_cons) (λh=>by cases h) (λX' e1 e2 _ _=>?_) (λb hb=>⟨id',hnew,⟨_,qI,rfl⟩,by rw[hmem];exact hb⟩) λt'=>?_⟩
   .rcases qO.1 hq with e1|e1;.right;rw[e1];exact⟨rfl,rfl⟩
    .exact .inl e1
   .rw[<-h1];obtain⟨b,hv,h0,hb⟩:=hm;exact⟨b,hv,h0,by rw[e2];exact hb⟩
   .show St.slot ⟨(t,.ref id)::(b64 al es (a7c es s)).sl,_,_⟩ t'=_\/_;by_cases e':t=t';.subst e';refine .inr ⟨?_,hs.2.1,(show ρ t=π id' from hs.2.1)▸hs.2.2⟩;show St.slot ⟨(t,.ref id)::(b64 al es (a7c es s)).sl,_,_⟩ t=_;rw[y8,if_pos rfl]
    .left;rw[y8,if_neg e'];rfl|.bm t id ty c m::es,ren,s,π0,hd,hn,hren,hπ0=>by
   obtain⟨hni,hnd⟩:=b1j (i:=id) (l:=b37 es) hn;have hren':∀q∈ren,q.2≠id/\q.2∉b37 es:=λq hq=>by have:=hren q hq;simp only[b37,qO,not_or]at this;exact this
   have hs:=h.slot t;simp only[c64]at hd;split at hd;case h_2=>cases hd
   rename_i id' hsl;rw[hsl]at hs;split at hd;case h_2=>cases hd
   rename_i ty' c' fs hany hmem;split at hd;case h_2=>cases hd
   rename_i hck;simp only[qB]at hck;have hee:=qC hck.1.1;subst hee;have hcc:=c0a hck.1.2;subst hcc;obtain⟨hp,hdk⟩:=a74 hd;have hnew:∀q∈ren,q.1≠id':=λq hq e1=>by have:(ren.any λq=>Nat.beq q.1 id')=true:=List.any_eq_true.2 ⟨q,hq,by rw[e1];exact Nat.beq_refl id'⟩;rw[hany]at this;cases this
   obtain⟨π',g1,g2,g3⟩:=b3r hU h es ((id',id)::ren) (a7c es s) (c0j π0 id (π id')) hdk hnd (λq hq=>by
    rcases qO.1 hq with e1|e1;.rw[e1];exact hni
    .exact(hren' q e1).2) (λq hq=>by
    rcases qO.1 hq with e1|e1;.rw[e1];exact if_pos rfl
    .rw[c0j,if_neg (hren' q e1).1];exact hπ0 q e1);have hm:=h.mem id';rw[hmem]at hm;obtain⟨blk,u,hv,hM,css,hu,hlay,hpp,hr⟩:=hm;refine⟨π',c7n (mc:=.box ty (.st c (b8h m (U.flds c (b0o es s))))) h hni g1 g2 g3 (λq hq=>?_) (λq hq=>qJ _ hq) (λi=>mem_cons) (λh=>by cases h) (λX' e1 e2 e3 hus=>?_) (λb hb=>⟨id',hnew,⟨_,qI,rfl⟩,by rw[hmem];exact hb⟩) λt'=>?_⟩
   .rcases qO.1 hq with e1|e1;.right;rw[e1];exact⟨rfl,rfl⟩
    .exact .inl e1
   .obtain⟨k1,k2,k3⟩:=d37 hU (X:=cx Z π σ w) (X':=X') hlay hpp hr hp e2 (by rw[e1];exactλ_ h=>h) λj jd hj=>by
     have hmo:=qX.1 hck.2 _ hj;dsimp only at hmo;split at hmo;.rename_i i hi;obtain⟨q,hq,hq2⟩:=List.any_eq_true.1 hmo;simp only[qB]at hq2;have q1:=qC hq2.1;have q2:=qC hq2.2;have hqr:=hren' q hq;refine⟨i,c1y hi,hus jd (.inr ⟨q,qJ _ hq,q2⟩),?_⟩;rw[e3];show π' jd=π i;rw[<-q2,g1 q.2 hqr.2,c0j,if_neg hqr.1,hπ0 q hq,q1]
     .cases hmo
    exact⟨blk,u,hv,by rw[e2];exact hM,css,hu,k1,k2,k3⟩
   .show St.slot ⟨(t,.ref id)::(b64 al es (a7c es s)).sl,_,_⟩ t'=_\/_;rw[y8];split;.rename_i e';subst e';right;refine⟨?_,hs.2.1,by have h9:=hs.2.2;rw[show ρ t=π id' from hs.2.1]at h9;exact h9⟩;show St.slot ⟨(t,.ref id)::(b64 al es (a7c es s)).sl,_,_⟩ t=_;rw[y8,if_pos rfl]
    .exact .inl rfl
def c6b{α β:Type}{o:A3 α}{f:α->A3 β}{b:β}(h:bindO o f=some b):∃a,o=some a/\f a=some b:=by cases o with|none=>cases h|some a=>exact⟨a,rfl,h⟩
def a9i{σ:U.St}:∀es:O (EK U.C),FZ σ (e6x σ es)
 |[],id,m,h=>by cases h|.ls t _::es,id,m,h=>by
   simp [e6x]at h;split at h
   .split at h
    .rename_i e c l hm;rcases qO.1 h with h|h;.obtain⟨rfl,rfl⟩:=h;exact⟨_,_,_,hm,rfl⟩
     .exact a9i es id m h
    .exact a9i es id m h
   .exact a9i es id m h|.v _ _::es,id,m,h=>a9i es id m h|.ow _ _ _ _::es,id,m,h=>a9i es id m h|.bx t _ _ _::es,id,m,h=>by
   simp [e6x]at h;split at h
   .split at h
    .rcases qK.1 h with h|h;.exact d9u _ id m h
     .exact a9i es id m h
    .exact a9i es id m h
   .exact a9i es id m h|.rp _ _::es,id,m,h=>a9i es id m h|.of _ _ _ _ _::es,id,m,h=>a9i es id m h|.bm _ _ _ _ _::es,id,m,h=>a9i es id m h|.it _ _::es,id,m,h=>a9i es id m h|.mp _ _::es,id,m,h=>a9i es id m h|.vw _ _ _::es,id,m,h=>a9i es id m h|.cr _ _ _::es,id,m,h=>a9i es id m h|.cl _ _ _::es,id,m,h=>a9i es id m h
def c46(hU:UOK U){Z:Nat->Prop}{π:Nat->A5}{σ:U.St}{ρ:Nat->A5}{w:World}(h:Rel E Z π σ ρ w){pins:O Nat}(hpin:∀i,E.pin i↔i∈pins){al:O (Nat×Nat)}{es:O (EK U.C)}{s:Keep U es}(hd:d6e pins al es σ=some s):∃Z2 π',(∀b,Z b->Z2 b)/\Rel E Z2 π' (b64 al es s) ρ w:=by
 unfold d6e at hd;split at hd
 .rename_i hn;have hfz:FZ σ _:=a9i es;have hle:=c8m h hfz;have h:=h.freeze hfz;let ⟨π',g1,g2,g3⟩:=b3r hU h es [] s π hd hn (λq hq=>by cases hq) (λq hq=>by cases hq);refine⟨_,π',hle.z,λt=>g2.slot _ rfl rfl rfl (λid hid=>?_) t,λid=>g2.mem _ rfl rfl rfl (λid hid=>by
   rcases hid with hid|⟨q,hq,_⟩;.exact g2.us id hid
   .cases hq) id,λid b hb=>?_,g2.dist,h.zlt,h.zin,h.zout,h.ext,λi hi=>?_,h.tab⟩
  .rcases hid with hid|⟨q,hq,_⟩;.exact g2.us id hid
   .cases hq
  .let ⟨_,old,_,h3⟩:=g2.own id b hb;exact h.own old b h3
  .let ⟨h1,h2⟩:=g3 i ((hpin i).1 hi);refine⟨?_,h1.trans (h.pin i hi).2⟩;rcases h2 with h2|⟨q,hq,_⟩;.exact g2.us i h2
   .cases hq
 .cases hd
def g1w{X X':Cx}(hz:X'.Z=X.Z)(hw:X'.w=X.w):∀{as:O U.AV}{vs:O A5},as.all isRp=true->y7 (a1p X) as vs->y7 (a1p X') as vs
 |[],[],_,_=>trivial|[],_::_,_,h=>h.elim|_::_,[],_,h=>h.elim|a::as,u::vs,hp,h=>by
   simp only[all_cons,qB]at hp;refine⟨?_,g1w hz hw hp.2 h.2⟩;cases a<;>try(cases (hp.1))
   exact g91 hw hz h.1
def d0g{X X':Cx}{a:U.AV}{v:A5}(hp:e09 a=true)(h:AVR X a v)(hz:X'.Z=X.Z)(hw:X'.w=X.w):AVR X' a v:=by
 have hG:X'.G=X.G:=by unfold Cx.G;rw[hz]
 cases a<;>first
  |exact h|(cases hp;done)|(simp [AVR,a1p,b79,hG,hw]at h⊢;exact h)|(let ⟨vs,hv,hr⟩:=h;exact⟨vs,hv,g1w hz hw hp hr⟩)
  | (rename_i f a;cases a<;>try(cases hp)
     let ⟨r,hv,cs,hc,hr⟩:=h;exact⟨r,hv,cs,hc,by rw[hG,hw];exact hr⟩)
def f9d{σ:U.St}:∀(inv:O Nat)(t:Nat),lk t (f3c σ inv)=if t∈inv/\e09 (σ.slot t)=true then some (σ.slot t)else none
 |[],t=>by simp[f3c,lk]|i::inv,t=>by
   have ih:=f9d (σ:=σ) inv t;simp [f3c];split;.rename_i hp;show(bif Nat.beq i t then some _ else lk t _)=_;cases hk:Nat.beq i t with|true=>have:=qC hk;subst this;simp[hp]|false=>rw[ih];simp[Ne.symm (Nat.ne_of_beq_eq_false hk)]
   .rename_i hp;rw[ih];by_cases hti:t=i;.subst hti;simp[hp]
    .simp[hti]
def d7u(σ:U.St)(t:Nat):σ.slot t=(lk t σ.sl).getD .unk:=by unfold St.slot;cases lk t _<;>rfl
def d7b{σ:U.St}{inv:O Nat}{al:O (Nat×Nat)}{es:O (EK U.C)}{s:Keep U es}(t:Nat):(e5d σ inv al es s).slot t=if t∈inv/\e09 (σ.slot t)=true then σ.slot t else(b64 al es s).slot t:=by
 have e:(e5d σ inv al es s).slot t=(lk t (f3c σ inv++(b64 al es s).sl)).getD _:=d7u _ _;rw[e,c7z,f9d,d7u (b64 al es s)];by_cases hh:t∈inv/\e09 (σ.slot t)=true;.rw[if_pos hh,if_pos hh];rfl
 .rw[if_neg hh,if_neg hh]
def c7g{Z:Nat->Prop}{π':Nat->A5}{σ:U.St}{ρ:Nat->A5}{w:World}{inv:O Nat}{al:O (Nat×Nat)}{es:O (EK U.C)}{s:Keep U es}(h:Rel E Z π' (b64 al es s) ρ w)(hs:∀t,t∈inv->e09 (σ.slot t)=true->AVR (cx Z π' (b64 al es s) w) (σ.slot t) (ρ t)):Rel E Z π' (e5d σ inv al es s) ρ w:=by
 refine⟨λt=>?_,h.mem,h.own,h.dist,h.zlt,h.zin,h.zout,h.ext,h.pin,h.tab⟩;rw[d7b];split;.rename_i hh;exact hs t hh.1 hh.2
 .exact h.slot t
def Env.re(E:Env)(Z:Nat->Prop)(w:World):Env:=⟨w,λb=>(E.G b\/E.w0.heap.size<=b)/\¬Z b,Z,E.pin,E.π0⟩
def Rel.re(hU:UOK U){Z:Nat->Prop}{π:Nat->A5}{σ:U.St}{ρ:Nat->A5}{w:World}(h:Rel E Z π σ ρ w):Rel (E.re Z w) Z π σ ρ w:=⟨h.slot,h.mem,λid b hb=>by let ⟨h1,h2,h3⟩:=h.own id b hb;exact⟨h1,h2,.inl ⟨h3,h1⟩⟩,h.dist,h.zlt,λb hb=>.inl hb,λb hb=>hb,Ext.refl _ _,h.pin,h.tabw hU,λb hb=>⟨Nat.lt_of_lt_of_le (h.tab.2 b hb).1 h.ext.size,λhg=>hg.1.elim (h.tab.2 b hb).2 λhg=>by have:=(h.tab.2 b hb).1;omega⟩⟩
def Rel.un{Z Z1:Nat->Prop}{π π1:Nat->A5}{σ σ1:U.St}{ρ ρ1:Nat->A5}{w w1:World}(h0:Rel E Z1 π1 σ1 ρ1 w1)(h:Rel (E.re Z1 w1) Z π σ ρ w):Rel E Z π σ ρ w:=by
 refine⟨h.slot,h.mem,λid b hb=>?_,h.dist,h.zlt,λb hb=>?_,λb hb=>h.zout b (h0.zout b hb),d19 h0.ext h.ext λx hx=>hx.1,h.pin,h0.tab⟩
 .let ⟨h1,h2,h3⟩:=h.own id b hb;refine⟨h1,h2,?_⟩;rcases h3 with h3|h3;.exact h3.1
  .exact .inr (Nat.le_trans h0.ext.size h3)
 .rcases h.zin b hb with h1|h1|h1;.exact h0.zin b h1
  .exact .inr h1.1
  .exact .inr (.inr (Nat.le_trans h0.ext.size h1))
def a3z(n:Nat):Code->Bool|.region _ ops _=>Plan.okTmps ops.toList n&&Plan.okSel ops.toList&&Plan.okAfter ops.toList|.seq a b=>a3z n a&&a3z n b|.cond c a b=>Operand.below n c&&(a3z n a&&a3z n b)|.block _ a=>a3z n a|.loop a=>a3z n a|_=>true
structure KOK{R:Type}(E:Env)(T:Nat->Prop)(ρ0:Nat->A5)(k:Kont U R)(r:R)(Q:Exit->(Nat->A5)->World->Prop):Prop where
 norm:∀σ Z π ρ w,(∀t,T t->ρ t=ρ0 t)->Rel E Z π σ ρ w->k.norm σ=some r->Q .normal ρ w
 exit:∀i σ Z π ρ w,(∀t,T t->ρ t=ρ0 t)->Rel E Z π σ ρ w->k.exit i σ=some r->Q (.exit i) ρ w
 ret:∀σ Z π ρ w,(∀t,T t->ρ t=ρ0 t)->Rel E Z π σ ρ w->k.ret σ=some r->Q .ret ρ w
def c9h{a b:O Nat}(h:f1m a b=true){x:Nat}(hx:x∈a):x∉b:=λhb=>by have h1:=qX.1 h x hx;have:=List.any_eq_true.2 ⟨x,hb,Nat.beq_refl x⟩;rw[this]at h1;cases h1
def f4h{Z:Nat->Prop}{π:Nat->A5}{σ:U.St}{ρ:Nat->A5}{w:World}(h:Rel E Z π σ ρ w){c:Operand}{e:Bool}(hc:c0g σ c=some e):ev ρ c=.bool e:=by
 unfold c0g at hc;split at hc;.cases hc;rfl
 .rename_i t;have hs:=h.slot t;split at hc;.rename_i b hst;cases hc;rw[hst]at hs;exact hs
  .cases hc
 .cases hc
def d3k{σ:U.St}:∀ts:O Nat,FZ σ (g6s σ ts)
 |[],id,m,h=>by cases h|t::ts,id,m,h=>by
   simp [g6s]at h;split at h
   .split at h
    .rename_i e c l hm;rcases qO.1 h with h|h;.obtain⟨rfl,rfl⟩:=h;exact⟨_,_,_,hm,rfl⟩
     .exact d3k ts id m h
    .exact d3k ts id m h
   .exact d3k ts id m h
def f5q{Z:Nat->Prop}{π:Nat->A5}{σ:U.St}{ρ:Nat->A5}{w:World}(h:Rel E Z π σ ρ w)(ts:O Nat):∃Z',Rel E Z' π (frzA σ ts) ρ w:=by cases ts with|nil=>exact⟨Z,h⟩|cons t ts=>exact⟨_,h.freeze (d3k _)⟩
def a6v(hU:UOK U)(hΦ:OKΦ P Φ)(hm:P.follows .mixedOrders=true){pins:O Nat}{R:Type}:∀(c:Code)(an:Ann U.C)(σ:U.St)(k:Kont U R)(r:R),a3z n c=true->den P Φ pins c an σ k=some r->∀(E:Env),(∀i,E.pin i↔i∈pins)->∀(T:Nat->Prop)(ρ0:Nat->A5)Q,(∀t,T t->t∉b5k c)->KOK E T ρ0 k r Q->∀Z π ρ w,(∀t,T t->ρ t=ρ0 t)->Rel E Z π σ ρ w->WP P n c Q ρ w
 |.skip,an,σ,k,r,_,h,E,_,T,ρ0,Q,_,hk,Z,π,ρ,w,hρ,hR=>WP.skip (hk.norm σ Z π ρ w hρ hR h)|.region id ops draw,an,σ,k,r,hc,h,E,_,T,ρ0,Q,hT,hk,Z,π,ρ,w,hρ,hR=>by
   simp only[a3z,qB]at hc;obtain⟨Z,hR⟩:=f5q hR an.fz;have:=e7n (Q:=Q) (id:=id) hU hΦ hm hc.1.1 hc.1.2 hc.2 h (λσ' Z π ρ' w hk' hR' h'=>hk.norm σ' Z π ρ' w (λt ht=>by
    rw[hk' t λo ho hd=>hT t ht ?_];.exact hρ t ht
    .exact List.mem_filterMap.2 ⟨o,ho,hd⟩) hR' h') hR;rwa[Array.toArray_toList]at this|.seq a b,an,σ,k,r,hc,h,E,hpin,T,ρ0,Q,hT,hk,Z,π,ρ,w,hρ,hR=>by
   simp only[a3z,qB]at hc;have hTa:=λt ht h=>hT t ht (mem_append_left _ h);have hTb:=λt ht h=>hT t ht (mem_append_right _ h);refine WP.seq ?_;have plain:∀an1 an2,den P Φ pins a an1 σ ⟨λσ=>den P Φ pins b an2 σ k,k.exit,k.ret⟩=some r->WP P n a (d78 (WP P n b Q) Q) ρ w:=by intro an1 an2 h;exact a6v hU hΦ hm a an1 σ _ r hc.1 h E hpin T ρ0 (d78 (WP P n b Q) Q) hTa ⟨λσ' Z π ρ w hρ' hR' h'=>a6v hU hΦ hm b an2 σ' k r hc.2 h' E hpin T ρ0 Q hTb hk Z π ρ w hρ' hR',λi σ' Z π ρ w hρ' hR' h'=>hk.exit i σ' Z π ρ w hρ' hR' h',λσ' Z π ρ w hρ' hR' h'=>hk.ret σ' Z π ρ w hρ' hR' h'⟩ Z π ρ w hρ hR
   cases an with|j al es a' b'=>refine a6v hU hΦ hm a a' σ _ r hc.1 h E hpin T ρ0 (d78 (WP P n b Q) Q) hTa ⟨λσ' Z π ρ w hρ' hR' h'=>?_,λi σ' Z π ρ w hρ' hR' h'=>hk.exit i σ' Z π ρ w hρ' hR' h',λσ' Z π ρ w hρ' hR' h'=>hk.ret σ' Z π ρ w hρ' hR' h'⟩ Z π ρ w hρ hR;obtain⟨s,hs,h'⟩:=c6b h';obtain⟨Z2,π',_,hR2⟩:=c46 hU hR' hpin hs;exact a6v hU hΦ hm b b' _ k r hc.2 h' E hpin T ρ0 Q hTb hk Z2 π' ρ w hρ' hR2|n=>exact plain _ _ h|s a' b'=>exact plain _ _ h|l inv al es a'=>exact plain _ _ h|g sp=>exact plain _ _ h|z _ _=>exact plain _ _ h
 |.cond c a b,an,σ,k,r,hc,h,E,hpin,T,ρ0,Q,hT,hk,Z,π,ρ,w,hρ,hR=>by
   simp only[a3z,qB]at hc;simp only[den]at h;split at h
   .rename_i e he;refine WP.cond (t:=e) hc.1 (f4h hR he) (λht=>?_) (λhf=>?_);.rw[if_pos ht]at h;exact a6v hU hΦ hm a _ σ k r hc.2.1 h E hpin T ρ0 Q (λt ht h=>hT t ht (mem_append_left _ h)) hk Z π ρ w hρ hR
    .rw[if_neg (by rw[hf];simp)]at h;exact a6v hU hΦ hm b _ σ k r hc.2.2 h E hpin T ρ0 Q (λt ht h=>hT t ht (mem_append_right _ h)) hk Z π ρ w hρ hR
   .cases h|.block id a,an,σ,k,r,hc,h,E,hpin,T,ρ0,Q,hT,hk,Z,π,ρ,w,hρ,hR=>by refine WP.block ?_;refine a6v hU hΦ hm a an σ _ r hc h E hpin T ρ0 (e48 id Q) hT ⟨λσ' Z π ρ w hρ' hR' h'=>hk.norm σ' Z π ρ w hρ' hR' h',λi σ' Z π ρ w hρ' hR' h'=>?_,λσ' Z π ρ w hρ' hR' h'=>hk.ret σ' Z π ρ w hρ' hR' h'⟩ Z π ρ w hρ hR;show(if i=id then Q .normal ρ w else Q (.exit i) ρ w);have h':(match Nat.beq i id with|true=>k.norm σ'|false=>k.exit i σ')=some r:=h';cases hb:Nat.beq i id with|true=>rw[hb]at h';rw[if_pos (qC hb)];exact hk.norm σ' Z π ρ w hρ' hR' h'|false=>rw[hb]at h';rw[if_neg (Nat.ne_of_beq_eq_false hb)];exact hk.exit i σ' Z π ρ w hρ' hR' h'
 |.loop a,an,σ,k,r,hc,h,E,hpin,T,ρ0,Q,hT,hk,Z,π,ρ,w,hρ,hR=>by cases an with
   |l inv al es an=>
     simp only[den]at h;split at h;.rename_i hap;obtain⟨s,hs,h⟩:=c6b h;obtain⟨Z2,π',hz2,hR2⟩:=c46 hU hR hpin hs;have hle2:Cx.Le (⟨Z,π',b7a (b64 al es s),w⟩:Cx) (cx Z2 π' (b64 al es s) w):=⟨hz2,Ext.refl _ _,λ_ h=>⟨h,rfl⟩⟩;refine WP.loop (λkk ρ w=>∃s Z π,(∀t,T t->ρ t=ρ0 t)/\Rel E Z π (e5d σ inv al es s) ρ w/\d9 kk _ s=some r) FU ⟨s,Z2,π',hρ,(c7g hR2 λt ht hp=>AVR.le hle2 (d0g (X':=⟨Z,π',b7a (b64 al es s),w⟩) hp (hR.slot t) rfl rfl)),h⟩ (λρ w⟨_,_,_,_,_,h⟩=>by cases h) ?_;rintro kk ρ1 w1⟨s,Z1,π1,hρ1,hR1,h⟩;refine a6v hU hΦ hm a an _ _ r hc (show den P Φ pins a an _ _=some r from h) (E.re Z1 w1) hpin (λt=>T t\/t∈inv) ρ1 (d78 _ Q) (λt ht=>ht.elim (hT t) (λhi=>c9h hap hi)) ⟨λσ' Z' π' ρ' w' hρ' hR' h'=>?_,λi σ' Z' π' ρ' w' hρ' hR' h'=>hk.exit i σ' Z' π' ρ' w' (λt ht=>(hρ' t (.inl ht)).trans (hρ1 t ht)) (Rel.un hR1 hR') h',λσ' Z' π' ρ' w' hρ' hR' h'=>hk.ret σ' Z' π' ρ' w' (λt ht=>(hρ' t (.inl ht)).trans (hρ1 t ht)) (Rel.un hR1 hR') h'⟩ Z1 π1 ρ1 w1 (λ_ _=>rfl) (hR1.re hU);obtain⟨s',hs',h'⟩:=c6b h';obtain⟨Z3,π'',hz3,hR4⟩:=c46 hU hR' hpin hs';have hle:Cx.Le (⟨Z1,π'',b7a _,w1⟩:Cx) (cx Z3 π'' (b64 al es s') w'):=⟨λb hb=>hz3 b (hR'.zout b hb),hR'.ext.mono λb hb hz=>hb.2 hz,λ_ h=>⟨h,rfl⟩⟩;refine⟨s',Z3,π'',λt ht=>(hρ' t (.inl ht)).trans (hρ1 t ht),Rel.un hR1 (c7g hR4 λt ht hp=>?_),h'⟩;have h1:=hR1.slot t;rw[d7b,if_pos ⟨ht,hp⟩]at h1;rw[hρ' t (.inr ht)];exact AVR.le hle (d0g hp h1 rfl rfl)
     .cases h|n=>cases h|s _ _=>cases h|j _ _ _ _=>cases h|g _=>cases h|z _ _=>cases h
 |.exit id,an,σ,k,r,_,h,E,_,T,ρ0,Q,_,hk,Z,π,ρ,w,hρ,hR=>WP.exit (hk.exit id σ Z π ρ w hρ hR h)|.ret,an,σ,k,r,_,h,E,_,T,ρ0,Q,_,hk,Z,π,ρ,w,hρ,hR=>WP.ret (hk.ret σ Z π ρ w hρ hR h)|.rangeFunc _ _ _ _,_,_,_,_,_,h,_,_,_,_,_,_,_,_,_,_,_,_,_=>by cases h|.scope _,_,_,_,_,_,h,_,_,_,_,_,_,_,_,_,_,_,_,_=>by cases h|.label _,_,_,_,_,_,h,_,_,_,_,_,_,_,_,_,_,_,_,_=>by cases h|.goto _,_,_,_,_,_,h,_,_,_,_,_,_,_,_,_,_,_,_,_=>by cases h|.refuse _,_,_,_,_,_,h,_,_,_,_,_,_,_,_,_,_,_,_,_=>by cases h
end
end Go.SX
