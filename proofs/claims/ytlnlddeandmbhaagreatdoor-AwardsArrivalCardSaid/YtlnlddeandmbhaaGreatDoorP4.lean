/- Texts of the proof, joined. -/
import Derived.Test.YtlnlddeandmbhaaGreatDoorP3
import Derived.RangeFuncNested
import Derived.RangeFuncBox
import Derived.RangeFuncLeaves
import Derived.Sort.Defs
import Derived.Lib.BitFns
import Derived.KernelRfl
import Derived.Laws.Cover3
import Derived.WideKeyMaps
import Derived.MapKept
import Derived.Carry
import Derived.WalkKit
import Derived.ProofKit
import Derived.OpenShut
import Derived.Deep.DeepHandedRow
import Derived.Lib.LaidTab
import Derived.LaidOnce
import Derived.LaidMore
set_option linter.defProp false
set_option linter.unusedVariables false
set_option linter.unusedSimpArgs false
set_option maxRecDepth 100000
open List
namespace Go.SX
open Go Go.PL
section
variable {P:Program} {U:Uni} {Φ:Phi U} {E:Env} {n:Nat}
def c1m(n:Nat)(rs:O ResultVar):Bool:=rs.all λr=>match r with|.tmp t=>decide (t<n)|.cell t _=>decide (t<n)
def c6y(tmps:Array A5):ResultVar->Sem A5|.tmp t=>pure (tmps.getD t undef)|.cell a t=>do loadVar t (<-asAddr (tmps.getD a undef))
def c85{α β:Type}{f:α->Sem β}{w:World}{p:α->β->Prop}:∀{l:O α},(∀x∈l,∃u,(f x).run P w=.ok u w/\p x u)->∃us,(l.mapM f).run P w=.ok us w/\y7 p l us|[],_=>⟨[],by simp,trivial⟩|x::l,h=>by let⟨u,hu,hp⟩:=h x (by simp);let⟨us,hus,hps⟩:=c85 (l:=l) λy hy=>h y (by grind);refine⟨u::us,?_,hp,hps⟩;simp_all
def c9t{σ:U.St}:∀rv:O ResultVar,FZ σ (g5q σ rv)
 |[],id,m,h=>by cases h|.tmp t::rv,id,m,h=>c9t rv id m h|.cell t ty::rv,id,m,h=>by
   simp [g5q]at h;split at h
   .split at h
    .rcases qK.1 h with h|h;.exact d9u _ id m h
     .exact c9t rv id m h
    .exact c9t rv id m h
   .exact c9t rv id m h
def f6r(hU:UOK U){Z:Nat->Prop}{π:Nat->A5}{σ:U.St}{ρ:Nat->A5}{w:World}(h:Rel E Z π σ ρ w){rv:ResultVar}(hc:(match rv with|.tmp t=>decide (t<n)|.cell t _=>decide (t<n))=true){a:U.AV}(hr:f3d P σ rv=some a):∃u,(c6y (Fr n ρ).tmps rv).run P w=.ok u w/\AVR (cx Z π σ w) a u:=by
 cases rv with|tmp t=>
   have hlt:t<n:=by simp_all
   cases hr;refine⟨ρ t,?_,h.slot t⟩;simp[c6y,Frd,hlt]|cell t ty=>
   have hlt:t<n:=by simp_all
   simp [f3d]at hr;split at hr
   .rename_i id hsl;split at hr
    .rename_i t0 b hmem;split at hr
     .rename_i hf;have hr:=qH hr;rw[hr]at hf;have hs:=h.slot t;rw[hsl]at hs;have hm:=h.mem id;rw[hmem]at hm;let⟨blk,u0,hv,hM,ha⟩:=hm;have ha:a1p (cx Z π σ w) a u0:=by rw[<-hr];exact f2k h ha
      have hL:Loc (cx Z π σ w) a ⟨blk,0,none⟩:=⟨u0,ha,hM.ca⟩;let⟨u,hu,hrun⟩:=e33 hU hf hL;refine⟨u,?_,AVR.of1 hu⟩;have hρ:ρ t=.pointer (some ⟨blk,0,none⟩):=by rw[show ρ t=π id from hs.2.1];omega
      have hrun:(Instr.loadAt ty (.pointer (some ⟨blk,0,none⟩))).run P w=.ok u w:=hrun;have hl:=by simpa[Instr.loadAt,Instr.sureAddr]using hrun
      simp[c6y,Frd,hlt,hρ,asAddr,hl]
     simp_all
    simp_all
   simp_all
def d0d{fn:Func}{tmps:Array A5}{w:World}{us:O A5}(h:(fn.results.toList.mapM (c6y tmps)).run P w=.ok us w):(results fn tmps).run P w=.ok (g6p us) w:=by
 have e:results fn tmps=(do let vs<-fn.results.mapM (c6y tmps)pure (if h:vs.size=1then vs[0]else .tuple vs):Sem A5):=by congr 1
 have h2:(fn.results.mapM (c6y tmps)).run P w=.ok us.toArray w:=by rw[Array.mapM_eq_mapM_toList];simp[h]
 rw[e,Sem.run_bind,h2];cases us with|nil=>rfl|cons u us=>cases us with|nil=>rfl|cons u' us=>simp[g6p]
def h23(σ:U.St)(π:Nat->A5)(o:A3 Nat)(v:A5):Prop:=match o with|none=>hdV v=none|some id=>v=π id/\∀b,hdV v=some b->MB (σ.mem id) (π id) b
def d0i(hU:UOK U){Z:Nat->Prop}{π:Nat->A5}{σ:U.St}{ρ:Nat->A5}{w:World}(h:Rel E Z π σ ρ w):∀(rs:O (RK U.C))(rvs:O ResultVar)(us0:O Nat)(x:Ress U rs)(vals:O A5),e51 P σ us0 rs rvs=some x->y7 (λr u=>∀a,f3d P σ r=some a->AVR (cx Z π σ w) a u) rvs vals->∃(fz:O (Nat×U.MC))(ow:O (A3 Nat)),FZ σ fz/\(∀q∈fz,q.1∉us0)/\y7 (h23 σ π) ow (c59 rs vals)/\(∀id,some id∈ow->id∉us0/\∀q∈fz,q.1≠id)/\(∀(i j:Nat)id,i≠j->ow[i]?=some (some id)->ow[j]?≠some (some id))/\∀Z',(∀b,Z b->Z' b)->(∀b,b50 σ π fz b->Z' b)->RRs (cz Z' w) rs x vals
 |[],[],us0,x,[],_,_=>⟨[],[],(λ_ _ h=>by grind),(λ_ h=>by grind),trivial,(λ_ h=>by grind),(λi j id _ h=>by grind),λ_ _ _=>trivial⟩|[],[],us0,x,_::_,_,h=>h.elim|[],_::_,us0,x,vals,hd,_=>by cases hd|r::rs,[],us0,x,vals,hd,_=>by cases r<;>cases hd|r::rs,rv::rvs,us0,x,[],_,h=>h.elim|.v c::rs,rv::rvs,us0,(x,xs),u::vals,hd,hv=>by
   simp [e51]at hd;split at hd;.rename_i a ha;let⟨h1,h2⟩:=a2k hd;let⟨fz,ow,g1,g2,g3,g4,g5,g6⟩:=d0i hU h rs rvs us0 xs vals h2 hv.2;refine⟨fz,ow,g1,g2,g3,g4,g5,λZ' hz hb=>⟨?_,g6 Z' hz hb⟩⟩;exact b0h (a1w hU c x).1 (c3i hU h1 (a8m (d1m hU h1) (hv.1 a ha))) rfl hz
   simp_all|.ls c::rs,rv::rvs,us0,(x,xs),u::vals,hd,hv=>by
   simp [e51]at hd;split at hd
   .rename_i a ha;split at hd
    .rename_i x' us' hl;let⟨h1,h2⟩:=a2k hd;have hx:=qH h1;subst hx;let⟨fz,ow,g1,g2,g3,g4,g5,g6⟩:=d0i hU h rs rvs us' xs vals h2 hv.2;have hav:=hv.1 a ha;have stay:us'=us0->(∀Z',(∀b,Z b->Z' b)->k9 (Rp c) (cz Z' w).G w u x')->∃(fz:O (Nat×U.MC))(ow:O (A3 Nat)),FZ σ fz/\(∀q∈fz,q.1∉us0)/\y7 (h23 σ π) ow (c59 (.ls c::rs) (u::vals))/\(∀id,some id∈ow->id∉us0/\∀q∈fz,q.1≠id)/\(∀(i j:Nat)id,i≠j->ow[i]?=some (some id)->ow[j]?≠some (some id))/\∀Z',(∀b,Z b->Z' b)->(∀b,b50 σ π fz b->Z' b)->RRs (cz Z' w) (.ls c::rs) (x',xs) (u::vals):=by intro e hr;subst e;exact⟨fz,ow,g1,g2,g3,g4,g5,λZ' hz hb=>⟨hr Z' hz,g6 Z' hz hb⟩⟩
     have wk:∀{l:O (U.T c)},k9 (Rp c) (cx Z π σ w).G w u l->∀Z',(∀b,Z b->Z' b)->k9 (Rp c) (cz Z' w).G w u l:=λhr Z' hz=>k9.weaken hr λb _ hb hz'=>hb (hz b hz');unfold resL at hl;split at hl
     .split at hl;.rename_i l hc;let⟨he,hx⟩:=a3i (G:=noG) (w:=w) hc;subst he;subst hx;cases hl;exact stay rfl (wk hav)
      .cases hl
     .cases hl;exact stay rfl λZ' _=>.inl ⟨hav,rfl⟩
     .rename_i id;have hm:=h.mem id;split at hl
      .rename_i e c' l' hany hmem;split at hl
       .rename_i l hc;let⟨he,hx⟩:=a3i (G:=noG) (w:=w) hc;subst he;subst hx;cases hl;rw[hmem]at hm;have hnotin:id∉us0:=λhin=>by have:=List.any_eq_true.2 ⟨id,hin,Nat.beq_refl id⟩;rw[hany]at this;cases this
        refine⟨(id,.fz c' x')::fz,ow,λi m hh=>?_,λq hq=>?_,g3,λi hi=>?_,g5,λZ' hz hb=>⟨?_,g6 Z' hz λb⟨q,hq,hb'⟩=>hb b ⟨q,qJ _ hq,hb'⟩⟩⟩
        .rcases qO.1 hh with e1|e1;.cases e1;exact⟨e,c',x',hmem,rfl⟩
         .exact g1 i m e1
        .rcases qO.1 hq with e1|e1;.rw[e1];omega
         .exactλh=>g2 q e1 (qJ _ h)
        .let⟨k1,k2⟩:=g4 i hi;refine⟨λh=>k1 (qJ _ h),λq hq=>?_⟩;rcases qO.1 hq with e1|e1;.rw[e1];exactλe2=>k1 (by rw[<-e2];exact qI)
         .exact k2 q e1
        .rw[show u=π id from hav.2.1];refine c0x (X:=cx Z π σ w) hm hz λb hb'=>hb b ⟨_,qI,?_⟩;rw[hmem];let⟨css,hO,_⟩:=hm;let⟨ad,cap,hv,_⟩:=hO.shape;exact(a95 hv).1 hb'
       .cases hl
      .rename_i c' l' hmem;split at hl;.rename_i l hc;let⟨he,hx⟩:=a3i (G:=noG) (w:=w) hc;subst he;subst hx;cases hl;rw[hmem]at hm;exact stay rfl (wk (by rw[show u=π id from hav.2.1];exact hm))
       .cases hl
      .cases hl
     .cases hl
    simp_all
   simp_all|.ow e c::rs,rv::rvs,us0,(x,xs),u::vals,hd,hv=>by
   simp [e51]at hd;split at hd
   .rename_i a ha;split at hd
    .rename_i x' us' hl;let⟨h1,h2⟩:=a2k hd;have hx:=qH h1;subst hx;let⟨fz,ow,g1,g2,g3,g4,g5,g6⟩:=d0i hU h rs rvs us' xs vals h2 hv.2;have hav:=hv.1 a ha;unfold resO at hl;split at hl
     .cases hl;have hu:=hav;refine⟨fz,none::ow,g1,g2,⟨by rw[hu];rfl,g3⟩,λi hi=>g4 i (by simpa using hi),λi j id hne hi=>?_,λZ' hz hb=>⟨?_,g6 Z' hz hb⟩⟩;.cases i with|zero=>simp at hi|succ i=>cases j with|zero=>simp|succ j=>exact g5 i j id (by omega) hi
      .rw[hu];exact⟨[],Own.nil _ _ _ _ _,trivial⟩
     .rename_i id;have hm:=h.mem id;split at hl
      .rename_i e' c' l' hany hmem;split at hl
       .rename_i l hbe hc;have hee:=qC hbe;subst hee;let⟨he,hx⟩:=a3i (G:=noG) (w:=w) hc;subst he;subst hx;cases hl;have hnotin:id∉us0:=λhin=>by have:=List.any_eq_true.2 ⟨id,hin,Nat.beq_refl id⟩;rw[hany]at this;cases this
        have hne:∀i,some i∈ow->i≠id:=λi hi e1=>(g4 i hi).1 (by rw[e1];exact qI);have hu:u=π id:=hav.2.1;refine⟨fz,some id::ow,g1,λq hq h=>g2 q hq (qJ _ h),⟨⟨hu,λb hb=>?_⟩,g3⟩,λi hi=>?_,λi j k hij hi hj=>?_,λZ' hz hb=>⟨?_,g6 Z' hz hb⟩⟩;.rw[hmem,<-hu];exact hb
        .rcases qO.1 hi with e1|e1;.cases e1;exact⟨hnotin,λq hq e2=>g2 q hq (by rw[e2];exact qI)⟩
         .let⟨k1,k2⟩:=g4 i e1;exact⟨λh=>k1 (qJ _ h),k2⟩
        .cases i with
         |zero=>simp at hi;cases j with|zero=>omega|succ j=>exact hne k (qE hj) hi.symm
         |succ i=>cases j with|zero=>simp at hj;exact hne k (qE hi) hj.symm|succ j=>exact g5 i j k (by omega) hi hj
        .rw[hmem]at hm;rw[hu];let⟨css,hO,hr⟩:=hm;exact⟨css,hO,hr.mono λr xv hh=>(Rp c').weaken hh λb _ hb hz'=>hb (hz b hz')⟩
       .cases hl
      .cases hl
     .cases hl
    simp_all
   simp_all|.bo t c::rs,rv::rvs,us0,(x,xs),u::vals,hd,hv=>by
   simp [e51]at hd;split at hd;case h_2=>grind
   rename_i a ha;split at hd;case h_2=>grind
   rename_i x' us' hl;let⟨h1,h2⟩:=a2k hd;have hx:=qH h1;subst hx;let⟨fz,ow,g1,g2,g3,g4,g5,g6⟩:=d0i hU h rs rvs us' xs vals h2 hv.2;have hav:=hv.1 a ha;unfold resP at hl;split at hl;.cases hl;have hu:=hav;refine⟨fz,none::ow,g1,g2,⟨by rw[hu];rfl,g3⟩,λi hi=>g4 i (by simpa using hi),λi j id hne hi=>?_,λZ' hz hb=>⟨hu,g6 Z' hz hb⟩⟩;cases i with|zero=>simp at hi|succ i=>cases j with|zero=>simp|succ j=>exact g5 i j id (by omega) hi
   .rename_i id;have hm:=h.mem id;split at hl;case h_2=>cases hl
    rename_i t' b hany hmem;split at hl;case h_2=>cases hl
    rename_i xv hbe hp;have hee:=qC hbe;subst hee;cases hl;have hnotin:id∉us0:=λhin=>by have:=List.any_eq_true.2 ⟨id,hin,Nat.beq_refl id⟩;rw[hany]at this;cases this
    have hne:∀i,some i∈ow->i≠id:=λi hi e1=>(g4 i hi).1 (by rw[e1];exact qI);have hu:u=π id:=hav.2.1;refine⟨fz,some id::ow,g1,λq hq h=>g2 q hq (qJ _ h),⟨⟨hu,λb hb=>?_⟩,g3⟩,λi hi=>?_,λi j k hij hi hj=>?_,λZ' hz hb=>⟨?_,g6 Z' hz hb⟩⟩;.rw[hmem,<-hu];exact hb
    .rcases qO.1 hi with e1|e1;.cases e1;exact⟨hnotin,λq hq e2=>g2 q hq (by rw[e2];exact qI)⟩
     .let⟨k1,k2⟩:=g4 i e1;exact⟨λh=>k1 (qJ _ h),k2⟩
    .cases i with
     |zero=>simp at hi;cases j with|zero=>omega|succ j=>exact hne k (qE hj) hi.symm
     |succ i=>cases j with|zero=>simp at hj;exact hne k (qE hi) hj.symm|succ j=>exact g5 i j k (by omega) hi hj
    .rw[hmem]at hm;let⟨blk,u1,hv1,hM,hr⟩:=hm;exact⟨blk,u1,by rw[hu];omega,hM,b0h (a1w hU c xv).1 (c3i hU hp hr) rfl hz⟩
   .cases hl
def c8q:∀(ps:O (PK U.C))(k i:Nat),i∈ioI k ps↔k<=i/\c0f ps (i-k)
 |[],k,i=>by simp[ioI,c0f]|p::ps,k,i=>by
   have ih:=c8q ps (k+1) i;have tl:k+1<=i->(c0f (p::ps) (i-k)↔c0f ps (i-(k+1))):=λhk=>by rw[show i-k=(i-(k+1))+1by omega];simp[c0f]
   by_cases hik:i=k
   .subst hik;have hno:i∉ioI (i+1) ps:=λh=>by grind
    cases p<;>simp[ioI,c0f,hno]
   .cases p<;>simp [ioI,qO,hik,false_or]<;>rw[ih]<;>(grind)
def b4z(σ:U.St)(π:Nat->A5):O (PK U.C)->O A5->O A5|.po b f _ _::ps,u::us=>(match e6y σ b f with|some j=>π j|none=>u)::b4z σ π ps us|_::ps,u::us=>u::b4z σ π ps us|_,us=>us
def d1s(σ:U.St)(π:Nat->A5):∀(ps:O (PK U.C))(us:O A5),(b4z σ π ps us).length=us.length|[],us=>by cases us<;>rfl|p::ps,[]=>by cases p<;>rfl|p::ps,u::us=>by cases p<;>simp[b4z,d1s σ π ps us]
def c8n(σ:U.St)(π:Nat->A5):∀(ps:O (PK U.C))(us:O A5)(i:Nat)(p:PK U.C),ps[i]?=some p->d4j p=false->(b4z σ π ps us)[i]?=us[i]?
 |[],us,i,p,h,_=>by grind|p0::ps,[],i,p,h,_=>by cases p0<;>rfl|p0::ps,u::us,0,p,h,hn=>by simp at h;subst h;cases p0<;>first|rfl|cases hn
 |p0::ps,u::us,i+1,p,h,hn=>by have:=c8n σ π ps us i p (by simp_all) hn;cases p0<;>simpa[b4z]using this
def d6i(σ:U.St)(π:Nat->A5):∀(ps:O (PK U.C))(us:O A5)(i b f j:Nat)(e:TypeId)(c:U.C),ps[i]?=some (.po b f e c)->i<us.length->e6y σ b f=some j->(b4z σ π ps us)[i]?=some (π j)|[],us,i,b,f,j,e,c,h,_,_=>by grind|p0::ps,[],i,b,f,j,e,c,h,hl,_=>by simp_all|p0::ps,u::us,0,b,f,j,e,c,h,_,hp=>by simp at h;subst h;simp[b4z,hp]|p0::ps,u::us,i+1,b,f,j,e,c,h,hl,hp=>by have:=d6i σ π ps us i b f j e c (by simp_all) (by simp_all) hp;cases p0<;>simpa[b4z]using this
def e7x{σ:U.St}:∀(ps:O (PK U.C))(k:Nat)(os:Outs U ps),c7d σ k ps=some os->∀(i b f:Nat)(e:TypeId)(c:U.C),ps[i]?=some (.po b f e c)->∃j,e6y σ b f=some j
 |[],k,os,_,i,b,f,e,c,h=>by grind|p::ps,k,os,hd,i,b,f,e,c,h=>by
   have step:∀os',c7d σ (k+1) ps=some os'->0<i->∃j,e6y σ b f=some j:=λos' hd' hi=>e7x ps (k+1) os' hd' (i-1) b f e c (by rw[show i=(i-1)+1by omega]at h;simp_all);have pos:d4j p=false->0<i:=λhn=>by
    rcases Nat.eq_zero_or_pos i with e1|e1;.subst e1;simp at h;subst h;cases hn
    omega
   cases p with
   |v c=>exact step os hd (pos rfl)|ls c=>exact step os hd (pos rfl)|ow e c=>exact step os hd (pos rfl)|rp t c=>exact step os hd (pos rfl)|cl f cs=>exact step os hd (pos rfl)|bn f c=>exact step os hd (pos rfl)|km f t=>exact step os hd (pos rfl)|vl f t c=>exact step os hd (pos rfl)|io t c=>
     let⟨o,os⟩:=os;simp [c7d]at hd;split at hd
     .split at hd;.exact step os (a2k hd).2 (pos rfl)
      simp_all
     simp_all|so e c=>
     let⟨o,os⟩:=os;simp [c7d]at hd;split at hd
     .split at hd;.exact step os (a2k hd).2 (pos rfl)
      simp_all
     simp_all|im t c m=>
     let⟨o,os⟩:=os;simp [c7d]at hd;split at hd
     .split at hd;.exact step os (a2k hd).2 (pos rfl)
      simp_all
     simp_all|po b0 f0 e0 c0=>
     let⟨o,os⟩:=os;simp [c7d]at hd;split at hd;case h_2=>grind
     split at hd;case h_2=>grind
     split at hd;case h_2=>grind
     rcases Nat.eq_zero_or_pos i with e1|e1;.simp_all
     .exact step os (a2k hd).2 e1
def b3j(hU:UOK U){Z:Nat->Prop}{π:Nat->A5}{σ:U.St}{ρ:Nat->A5}{w:World}(h:Rel E Z π σ ρ w):∀(ps:O (PK U.C))(k:Nat)(os:Outs U ps)(us:O A5),c7d σ k ps=some os->us.length=ps.length->(∀(j:Nat)v,us[j]?=some v->(k+j)∈ioI k ps->π (k+j)=v)->(∀X':Cx,(∀b,Z b->X'.Z b)->X'.w=w->(∀(i:Nat)t c m,ps[i]?=some (.im t c m)->∀q∈m,∃j,e6y σ (k+i) q.1=some j/\X'.us q.2/\X'.π q.2=π j)->OR X' ps os (b4z σ π ps us))/\y7 (λid v=>v=π id/\∀b,hdV v=some b->MB (σ.mem id) (π id) b) (ioP σ k ps) (ioB ps (b4z σ π ps us))
 |[],k,os,[],_,_,_=>⟨λ_ _ _ _=>trivial,trivial⟩|[],k,os,_::_,_,hl,_=>by simp_all|_::_,k,os,[],_,hl,_=>by simp_all|p::ps,k,os,u::us,hd,hl,hπ=>by
   have hπ':∀(j:Nat)v,us[j]?=some v->(k+1+j)∈ioI (k+1) ps->π (k+1+j)=v:=λj v hv hm=>by have:=hπ (j+1) v (by simp_all);rw[show k+(j+1)=k+1+j by omega]at this;refine this ?_;cases p<;>simp[ioI,hm]
   have hl':us.length=ps.length:=by simp_all
   have sub:∀{X':Cx},(∀(i:Nat)t c m,(p::ps)[i]?=some (.im t c m)->∀q∈m,∃j,e6y σ (k+i) q.1=some j/\X'.us q.2/\X'.π q.2=π j)->∀(i:Nat)t c m,ps[i]?=some (.im t c m)->∀q∈m,∃j,e6y σ (k+1+i) q.1=some j/\X'.us q.2/\X'.π q.2=π j:=λhm i t c m hp q hq=>by have:=hm (i+1) t c m (by simpa using hp) q hq;rwa[show k+(i+1)=k+1+i by omega]at this
   cases p with
   |v c=>let⟨g1,g2⟩:=b3j hU h ps (k+1) os us hd hl' hπ';exact⟨λX' hz hw hm=>g1 X' hz hw (sub hm),g2⟩|ls c=>let⟨g1,g2⟩:=b3j hU h ps (k+1) os us hd hl' hπ';exact⟨λX' hz hw hm=>g1 X' hz hw (sub hm),g2⟩|ow e c=>let⟨g1,g2⟩:=b3j hU h ps (k+1) os us hd hl' hπ';exact⟨λX' hz hw hm=>g1 X' hz hw (sub hm),g2⟩|rp t c=>let⟨g1,g2⟩:=b3j hU h ps (k+1) os us hd hl' hπ';exact⟨λX' hz hw hm=>g1 X' hz hw (sub hm),g2⟩|cl f cs=>let⟨g1,g2⟩:=b3j hU h ps (k+1) os us hd hl' hπ';exact⟨λX' hz hw hm=>g1 X' hz hw (sub hm),g2⟩|bn f c=>let⟨g1,g2⟩:=b3j hU h ps (k+1) os us hd hl' hπ';exact⟨λX' hz hw hm=>g1 X' hz hw (sub hm),g2⟩|km f t=>let⟨g1,g2⟩:=b3j hU h ps (k+1) os us hd hl' hπ';exact⟨λX' hz hw hm=>g1 X' hz hw (sub hm),g2⟩|vl f t c=>let⟨g1,g2⟩:=b3j hU h ps (k+1) os us hd hl' hπ';exact⟨λX' hz hw hm=>g1 X' hz hw (sub hm),g2⟩|io t c=>
     let⟨o,os⟩:=os;simp [c7d]at hd;split at hd
     .rename_i t' b hmem;split at hd
      .rename_i hbe;have hee:=qC hbe;subst hee;let⟨h1,h2⟩:=a2k hd;let⟨g1,g2⟩:=b3j hU h ps (k+1) os us h2 hl' hπ';have hu:π k=u:=hπ 0 u rfl (by simp[ioI]);have hm:=h.mem k;rw[hmem]at hm;let⟨blk,u1,hv,hM,hr⟩:=hm;refine⟨λX' hz hw hmk=>⟨⟨blk,u1,by rw[<-hu];omega,by rw[hw];exact hM,?_⟩,g1 X' hz hw (sub hmk)⟩,⟨hu.symm,λbb hb=>?_⟩,g2⟩;.exact b0h (a1w hU c o).1 (c3i hU h1 hr) hw hz
       .rw[hmem,hu];exact hb
      .cases hd
     .cases hd|im t c m=>
     let⟨o,os⟩:=os;simp [c7d]at hd;split at hd
     .rename_i t' c' fs hmem;split at hd
      .rename_i hbe;simp only[qB]at hbe;have hee:=qC hbe.1;subst hee;have hcc:=c0a hbe.2;subst hcc;let⟨h1,h2⟩:=a2k hd;let⟨g1,g2⟩:=b3j hU h ps (k+1) os us h2 hl' hπ';have hu:π k=u:=hπ 0 u rfl (by simp[ioI]);have hm:=h.mem k;rw[hmem]at hm;let⟨blk,u1,hv,hM,css,hu1,hlay,hpp,hr⟩:=hm;refine⟨λX' hz hw hmk=>⟨?_,g1 X' hz hw (sub hmk)⟩,⟨hu.symm,λbb hb=>?_⟩,g2⟩
       .let⟨k1,k2,k3⟩:=d37 hU hlay hpp hr h1 hw hz λj jd hj=>by
         let⟨i,hi,hus,hpi⟩:=hmk 0 t c m rfl (j,jd) hj;have hi:c71 fs j=some i:=by
          have:e6y σ (k+0) j=c71 fs j:=by simp[e6y,hmem]
          rw[<-this];omega
         exact⟨i,c1y hi,hus,hpi⟩
        exact⟨blk,u1,by rw[<-hu];omega,by rw[hw];exact hM,css,hu1,k1,k2,k3⟩
       .rw[hmem,hu];exact hb
      .cases hd
     .cases hd|so e0 c0=>
     obtain⟨o,os⟩:=os;simp [c7d]at hd;split at hd;case h_2=>cases hd
     rename_i e' c' l hmem;split at hd;case h_2=>cases hd
     rename_i hbe;have hee:=qC hbe;subst hee;let⟨h1,h2⟩:=a2k hd;let⟨he,hx⟩:=a3i (G:=noG) (w:=w) h1;subst he;subst hx;let⟨g1,g2⟩:=b3j hU h ps (k+1) os us h2 hl' hπ';have hu:π k=u:=hπ 0 u rfl (by simp[ioI]);have hm:=h.mem k;rw[hmem]at hm;refine⟨λX' hz hw hmk=>⟨?_,g1 X' hz hw (sub hmk)⟩,⟨hu.symm,λbb hb=>by rw[hmem,hu];exact hb⟩,g2⟩;let⟨css,hO,hr⟩:=hm;refine⟨css,by rw[<-hu,hw];exact hO,hr.mono λr x hh=>?_⟩;rw[hw];exact(Rp _).weaken hh λb _ hb hz'=>hb (hz b hz')|po b0 f0 e0 c0=>
     obtain⟨o,os⟩:=os;simp [c7d]at hd;split at hd;case h_2=>cases hd
     rename_i j hj;split at hd;case h_2=>cases hd
     rename_i e' c' l hmem;split at hd;case h_2=>cases hd
     rename_i hbe;have hee:=qC hbe;subst hee;let⟨h1,h2⟩:=a2k hd;let⟨he,hx⟩:=a3i (G:=noG) (w:=w) h1;subst he;subst hx;let⟨g1,g2⟩:=b3j hU h ps (k+1) os us h2 hl' hπ';have hm:=h.mem j;rw[hmem]at hm;simp only[b4z,ioP,hj];refine⟨λX' hz hw hmk=>⟨?_,g1 X' hz hw (sub hmk)⟩,⟨rfl,λbb hb=>by rw[hmem];exact hb⟩,g2⟩;let⟨css,hO,hr⟩:=hm;refine⟨css,by rw[hw];exact hO,hr.mono λr x hh=>?_⟩;rw[hw];exact(Rp _).weaken hh λb _ hb hz'=>hb (hz b hz')
def e2b{all:O (PK U.C)}:∀(ps:O (PK U.C))(k:Nat),c2u all k ps=true->∀(i:Nat)t c m q,ps[i]?=some (.im t c m)->q∈m->∃e c',all[q.2]?=some (.po (k+i) q.1 e c')
 |[],k,_,i,t,c,m,q,h,_=>by grind|p0::ps,k,h,i,t,c,m,q,hp,hq=>by
   have step:c2u all (k+1) ps=true:=by cases p0<;>first|exact h|(simp [c2u,qB]at h;grind)
   cases i with
   |zero=>
     simp at hp;subst hp;simp only[c2u,qB]at h;have h1:=qX.1 h.1 q hq;split at h1;.rename_i b f e c' hx;simp only[qB]at h1;have e1:=qC h1.1;have e2:=qC h1.2;exact⟨e,c',by grind⟩
     grind|succ i=>let⟨e,c',hx⟩:=e2b ps (k+1) step i t c m q (by simp_all) hq;exact⟨e,c',by grind⟩
def e9t(hU:UOK U){s:Sig U}{w0:World}{G Z0:Nat->Prop}{us:O A5}(hlen:us.length=s.ps.length)(hmi:c2u s.ps 0 s.ps=true){Z:Nat->Prop}{π:Nat->A5}{σ:U.St}{ρ:Nat->A5}{w:World}(h:Rel ⟨w0,G,Z0,c0f s.ps,c7a us⟩ Z π σ ρ w){fn:Func}(hc:c1m n fn.results.toList=true){r:Ress U s.rs×Outs U s.ps}(hr:h2z P s fn.results.toList σ=some r):∃v,(results fn (Fr n ρ).tmps).run P w=.ok v w/\Post s Z0 G w0 us r v w:=by
 unfold h2z at hr;split at hr;case h_2=>grind
 rename_i hnd;split at hr;case h_2=>grind
 rename_i x hx;split at hr;case h_2=>grind
 rename_i os hos;cases hr;have hsome:∀(rs:O (RK U.C))(rvs:O ResultVar)(us0:O Nat)(x:Ress U rs),e51 P σ us0 rs rvs=some x->∀rv∈rvs,∃a,f3d P σ rv=some a:=by intro rs;induction rs with
  |nil=>intro rvs us0 x hd rv hrv;cases rvs with|nil=>grind|cons _ _=>cases hd
  |cons r rs ih=>intro rvs us0 x hd rv hrv;cases rvs with|nil=>grind|cons rv0 rvs=>
      let⟨x0,xs⟩:=x;have hh:(∃a,f3d P σ rv0=some a)/\∃us',e51 P σ us' rs rvs=some xs:=by
       cases r<;>simp [e51]at hd<;>split at hd<;>try(cases hd)
       .rename_i a ha;exact⟨⟨a,ha⟩,_,(a2k hd).2⟩
       .rename_i a ha;split at hd;.exact⟨⟨a,ha⟩,_,(a2k hd).2⟩
        simp_all
       .rename_i a ha;split at hd;.exact⟨⟨a,ha⟩,_,(a2k hd).2⟩
        simp_all
       .rename_i a ha;split at hd;.exact⟨⟨a,ha⟩,_,(a2k hd).2⟩
        simp_all
      rcases qO.1 hrv with e|e;.simp_all
      .let⟨us',hd'⟩:=hh.2;exact ih rvs us' xs hd' rv e
 let⟨vals,hrun,hvals⟩:=c85 (P:=P) (f:=c6y (Fr n ρ).tmps) (w:=w) (p:=λr u=>∀a,f3d P σ r=some a->AVR (cx Z π σ w) a u) (l:=fn.results.toList) λrv hrv=>by let⟨a,ha⟩:=hsome _ _ _ _ hx rv hrv;let⟨u,hu,hau⟩:=f6r hU h (qX.1 hc rv hrv) ha;simp_all
 refine⟨g6p vals,d0d hrun,?_⟩;let⟨fz,ow,g1,g2,g3,g4,g5,g6⟩:=d0i hU h s.rs _ _ x vals hx hvals;have hpi:∀(j:Nat)v,us[j]?=some v->(0+j)∈ioI 0 s.ps->π (0+j)=v:=λj v hv hm=>by have:=(h.pin (0+j) (by have:=(c8q s.ps 0 (0+j)).1 hm;simpa using this.2)).2;rw[this,Nat.zero_add];show us.getD j undef=v;simp[hv]
 let⟨o1,o2⟩:=b3j hU h s.ps 0 os us hos hlen hpi;have hnfz:∀b,∀id,MB (σ.mem id) (π id) b->(∀q∈fz,q.1≠id)->¬(Z b\/b50 σ π fz b):=by
  rintro b id hb hq(hz|⟨q,hqm,hqb⟩);.exact(h.own id b hb).1 hz
  .exact h.dist q.1 id b (hq q hqm) hqb hb
 have hmk:∀(i:Nat)t c m,s.ps[i]?=some (.im t c m)->∀q∈m,∃j,e6y σ (0+i) q.1=some j/\(czO (λb=>Z b\/b50 σ π fz b) s.ps (b4z σ π s.ps us) w).us q.2/\(czO (λb=>Z b\/b50 σ π fz b) s.ps (b4z σ π s.ps us) w).π q.2=π j:=by intro i t c m hp q hq;let⟨e,c',hx⟩:=e2b s.ps 0 hmi i t c m q hp hq;let⟨j,hj⟩:=e7x s.ps 0 os hos q.2 (0+i) q.1 e c' hx;refine⟨j,hj,⟨_,hx,rfl⟩,?_⟩;have h9:=d6i σ π s.ps us q.2 (0+i) q.1 j e c' hx (by rw[hlen];exact(qD.1 hx).1) hj;show(b4z σ π s.ps us).getD q.2 undef=π j;simp[getD_eq_getElem?_getD,h9]
 have o1':=o1 (czO (λb=>Z b\/b50 σ π fz b) s.ps (b4z σ π s.ps us) w) (λb hb=>.inl hb) rfl hmk;have hsame:=c8n σ π s.ps us;have hlen':=d1s σ π s.ps us;generalize b4z σ π s.ps us=ua at o1' o2 hsame hlen';have hnd2:∀(l:O Nat),c6j l=true->∀(i j a:Nat),i≠j->l[i]?=some a->l[j]?≠some a:=by intro l;induction l with|nil=>intro _ i j a _ h;simp at h|cons q l ih=>intro hn i j a hne hi hj;let⟨n1,n2⟩:=b1j hn;cases i with
    |zero=>cases j with|zero=>omega|succ j=>rw[<-hi]at hj;exact n1 (qE hj)
    |succ i=>cases j with|zero=>rw[<-hj]at hi;exact n1 (qE hi)|succ j=>exact ih n2 i j a (by omega) (by simpa using hi) (by simpa using hj)
 have hall:∃ids:O (A3 Nat),y7 (h23 σ π) ids (c59 s.rs vals++ioB s.ps ua)/\(∀id,some id∈ids->∀q∈fz,q.1≠id)/\∀(i j:Nat)id,i≠j->ids[i]?=some (some id)->ids[j]?≠some (some id):=by
  refine⟨ow++(ioP σ 0 s.ps).map some,a87 g3 ?_,λid hid=>?_,λi j id hne hi hj=>?_⟩
  .have key:∀(l:O Nat)(vs:O A5),y7 (λid v=>v=π id/\∀b,hdV v=some b->MB (σ.mem id) (π id) b) l vs->y7 (h23 σ π) (l.map some) vs:=by intro l;induction l with
    |nil=>intro vs hv;cases vs with|nil=>trivial|cons _ _=>exact hv.elim
    |cons i l ih=>intro vs hv;cases vs with|nil=>exact hv.elim|cons v vs=>exact⟨hv.1,ih vs hv.2⟩
   exact key _ _ o2
  .rcases qK.1 hid with h1|h1;.exact(g4 id h1).2
   .let⟨i,hi,he⟩:=List.mem_map.1 h1;cases he;intro q hq e;exact g2 q hq (by rw[e];omega)
  .have cross:∀(a b:Nat),ow[a]?=some (some id)->(ioP σ 0 s.ps)[b]?=some id->False:=by intro a b ha hb;exact(g4 id (qE ha)).1 (qE hb)
   have unmap:∀(b:Nat),((ioP σ 0 s.ps).map some)[b]?=some (some id)->(ioP σ 0 s.ps)[b]?=some id:=by intro b hb;rw[getElem?_map]at hb;cases hx:(ioP σ 0 s.ps)[b]?with|none=>rw[hx]at hb;cases hb|some q=>rw[hx]at hb;simp at hb;rw[hb]
   rcases p5 hi with⟨_,hi⟩|⟨hi0,hi⟩<;>rcases p5 hj with⟨_,hj⟩|⟨hj0,hj⟩;.exact g5 i j id hne hi hj
   .exact cross _ _ hi (unmap _ hj)
   .exact cross _ _ hj (unmap _ hi)
   .exact hnd2 _ hnd _ _ id (by omega) (unmap _ hi) (unmap _ hj)
 let⟨ids,i1,i2,i3⟩:=hall;refine⟨λb=>Z b\/b50 σ π fz b,vals,ua,rfl,λb hb=>.inl (h.zout b hb),λb hb=>?_,h.ext,hlen',hsame,g6 _ (λb hb=>.inl hb) (λb hb=>.inr hb),o1',λv hv b hb=>?_,λi j v v' b hne hi hj hb hb'=>?_⟩
 .rcases hb with hb|⟨q,hq,hb⟩
  .rcases h.zin b hb with h1|h1|h1;.exact .inl h1
   .exact .inr (.inl h1)
   .exact .inr (.inr ⟨h1,h.zlt b hb⟩)
  .let⟨_,h2,h3⟩:=h.own q.1 b hb;rcases h3 with h3|h3;.exact .inr (.inl h3)
   .exact .inr (.inr ⟨h3,h2⟩)
 .let⟨k,hk⟩:=getElem?_of_mem hv;let⟨o,ho,hown⟩:=i1.getR hk;cases o with|none=>rw[hown]at hb;cases hb|some id=>let⟨e1,e2⟩:=hown;have hMB:=e2 b hb;let⟨_,h2,h3⟩:=h.own id b hMB;exact⟨hnfz b id hMB (i2 id (qE ho)),h2,h3⟩
 .let⟨o,ho,hown⟩:=i1.getR hi;let⟨o',ho',hown'⟩:=i1.getR hj;cases o with|none=>rw[hown]at hb;cases hb|some id=>cases o' with|none=>rw[hown']at hb';cases hb'|some id'=>have hne':id≠id':=λe=>i3 i j id hne ho (by rw[e];omega);exact h.dist id id' b hne' (hown.2 b hb) (hown'.2 b hb')
def c2g(hU:UOK U){s:Sig U}{w0:World}{G Z0:Nat->Prop}{us:O A5}(hlen:us.length=s.ps.length)(hmi:c2u s.ps 0 s.ps=true){Z:Nat->Prop}{π:Nat->A5}{σ:U.St}{ρ:Nat->A5}{w:World}(h:Rel ⟨w0,G,Z0,c0f s.ps,c7a us⟩ Z π σ ρ w){fn:Func}(hc:c1m n fn.results.toList=true){r:Ress U s.rs×Outs U s.ps}(hr:e61 P s fn.results.toList σ=some r):∃v,(results fn (Fr n ρ).tmps).run P w=.ok v w/\Post s Z0 G w0 us r v w:=e9t hU hlen hmi (h.freeze (c9t fn.results.toList)) hc hr
def g4r(hU:UOK U)(hΦ:OKΦ P Φ)(hm:P.follows .mixedOrders=true){f:FuncId}{fn:Func}{c:Code}{fe:Fent U}(un:Ress U fe.s.rs×Outs U fe.s.ps->fe.B)(an:Ann U.C)(hf:P.funcs[f]?=some fn)(hb:fn.body=some c)(hc:(a3z fn.ntmps c&&c1m fn.ntmps fn.results.toList&&(decide (npK fe.s.ps<=fn.ntmps)&&b4o fe.s.ps))=true)(hun:∀p,fe.wr (un p)=p)(hF:∀x b,fe.F x=some b->c5v P Φ fe.s un fn an x=some b):Spec P f fe:=by
 intro xs b hr Z G w us hlen hR;simp [qB,decide_eq_true_eq]at hc;have hmi:c2u fe.s.ps 0 fe.s.ps=true:=by have h9:=hc.2.2;unfold b4o at h9;simp_all
 have hd:=hF xs b hr;unfold c5v at hd;rw[hb]at hd;have hret:∀{σ:U.St},unK un (e61 P fe.s fn.results.toList σ)=some b->e61 P fe.s fn.results.toList σ=some (fe.wr b):=λ{σ}h=>by
  unfold unK at h;split at h;.cases h;simp_all
  simp_all
 refine(Calls.of_WP hf hb rfl (by rw[length_take];omega) ?_);refine a6v hU hΦ hm c an _ _ b hc.1.1 hd ⟨w,G,Z,c0f fe.s.ps,c7a us⟩ (λi=>?_) (λ_=>False) (c7a (us.take (npK fe.s.ps))) _ (λ_ h=>h.elim) ⟨λσ Z' π ρ w' _ hR' h'=>?_,(λi σ Z' π ρ w' _ hR' h'=>by grind),λσ Z' π ρ w' _ hR' h'=>?_⟩ Z _ _ w (λ_ h=>h.elim) hR;.have:=c8q fe.s.ps 0 i;simp_all
 .exact c2g hU hlen hmi hR' hc.1.2 (hret h')
 .exact c2g hU hlen hmi hR' hc.1.2 (hret h')
end
section
variable {U:Uni}
def d0t:Obj->Bool|.loop _|.deferred _=>true|.mapIter _ _ seen _=>!seen.isEmpty|_=>false
section
variable {G:Nat -> Prop} {w:World} {l:Nat} {o o':Obj}
def g5f(hl:w.heap[l]?=some o)(ho:d0t o=true){a:Addr}{v:A5}(h:w.cell? a=some v):(w.putObj l o').cell? a=some v:=by
 have hne:a.block≠l:=by intro e;unfold World.cell? at h;rw[e,hl]at h;cases o<;>first|(cases h)|(cases ho)
 unfold World.cell? at h⊢;rw[World.putObj_heap_other hne];omega
def g5t(hl:w.heap[l]?=some o)(ho:d0t o=true){a:Addr}{cs:O A5}(h:CA w a cs):CA (w.putObj l o') a cs:=λj v hj=>g5f hl ho (h j v hj)
def c7t(hl:w.heap[l]?=some o)(ho:d0t o=true){b:Nat}{q:Obj}(hq:w.heap[b]?=some q)(hn:d0t q=false):(w.putObj l o').heap[b]?=some q:=by
 have hne:b≠l:=λe=>by simp_all
 rw[World.putObj_heap_other hne];omega
def c57{α:Type}{R:TyR α}(hl:w.heap[l]?=some o)(ho:d0t o=true)(hR:∀cs x,R.rep G w cs x->R.rep G (w.putObj l o') cs x){v:A5}{xs:O α}(h:k9 R G w v xs):k9 R G (w.putObj l o') v xs:=by
 rcases h with h|⟨a,cap,hv,hc,hm,hi⟩;.exact .inl h
 .refine .inr ⟨a,cap,hv,hc,hm,λi x hx=>?_⟩;let⟨cs,hr,hb,hg,hca⟩:=hi i x hx;exact⟨cs,hR _ _ hr,by rw[World.putObj_size];omega,hg,g5t hl ho hca⟩
def d5d{R:∀c,TyR (U.T c)}(hl:w.heap[l]?=some o)(ho:d0t o=true)(hR:∀c cs x,(R c).rep G w cs x->(R c).rep G (w.putObj l o') cs x){a:U.AV}{cs:O A5}(h:a0z R G w a cs):a0z R G (w.putObj l o') a cs:=by cases a<;>simp [a0z]at*<;>first|omega|simp_all|(let⟨v,hv,hr⟩:=h;exact⟨v,hv,c57 hl ho (hR _) hr⟩)
def c8h{R:∀c,TyR (U.T c)}(hl:w.heap[l]?=some o)(ho:d0t o=true)(hR:∀c cs x,(R c).rep G w cs x->(R c).rep G (w.putObj l o') cs x){a:U.AV}{cs:O A5}(h:e8 R G w a cs):e8 R G (w.putObj l o') a cs:=by cases a<;>simp [e8]at*<;>first|omega|exact hR _ _ _ h|(let⟨v,hv,hr⟩:=h;exact⟨v,hv,c57 hl ho (hR _) hr⟩)|(let⟨ad,cs',hc,hb,hg,hca,hr⟩:=h;exact⟨ad,cs',hc,by simp_all,hg,g5t hl ho hca,d5d hl ho hR hr⟩)
def g70(hl:w.heap[l]?=some o)(ho:d0t o=true):∀(d:Nat)(c:U.C)(cs:O A5)(x:U.T c),(Rd d c).rep G w cs x->(Rd d c).rep G (w.putObj l o') cs x|0,c,cs,x,h=>h.elim|d+1,c,cs,x,h=>by let⟨h1,css,h2,h3⟩:=h;exact⟨h1,css,h2,h3.mono λ_ _ hh=>c8h hl ho (g70 hl ho d) hh⟩
def e5p(hl:w.heap[l]?=some o)(ho:d0t o=true)(c:U.C)(cs:O A5)(x:U.T c):(Rp c).rep G w cs x->(Rp c).rep G (w.putObj l o') cs x:=λ⟨d,h⟩=>⟨d,g70 hl ho d c cs x h⟩
end
section
variable {X:Cx} {l:Nat} {o o':Obj}
def Cx.pu(X:Cx)(l:Nat)(o':Obj):Cx:=⟨X.Z,X.π,X.us,X.w.putObj l o'⟩
def e77(hl:X.w.heap[l]?=some o)(ho:d0t o=true){a:U.AV}{v:A5}(ha:b79 X a v):b79 (X.pu l o') a v:=by cases a<;>simp only[b79]at*<;>first|exact ha|(let⟨cs,hv,hr⟩:=ha;exact⟨cs,hv,e5p hl ho _ _ _ hr⟩)|exact c57 hl ho (e5p hl ho _) ha|(let⟨ad,cs,hv,hb,hg,hc,hr⟩:=ha;exact⟨ad,cs,hv,by show ad.block<(X.w.putObj l o').heap.size;simp_all,hg,g5t hl ho hc,c8h hl ho (e5p hl ho) hr⟩)|(let⟨b,mb,s,c,hv,⟨h1,h2⟩,⟨h3,h4⟩,h5,h6⟩:=ha;exact⟨b,mb,s,c,hv,⟨by show b<(X.w.putObj l o').heap.size;simp_all,h2⟩,⟨by show mb<(X.w.putObj l o').heap.size;simp_all,h4⟩,c7t hl ho h5 rfl,c7t hl ho h6 rfl⟩)
def d3j(hl:X.w.heap[l]?=some o)(ho:d0t o=true){a:U.AV}{v:A5}(ha:a1p X a v):a1p (X.pu l o') a v:=by
 cases a;case st c as=>let⟨css,hv,h1,h2,hr⟩:=ha;exact⟨css,hv,h1,h2,hr.mono λ_ _⟨u,hu,hh⟩=>⟨u,hu,e77 hl ho hh⟩⟩
 all_goals simp [a1p]at ha⊢;exact e77 hl ho ha
def g4h{w:World}{b:Nat}{t:TypeId}{cs:O A5}(hl:w.heap[l]?=some o)(ho:d0t o=true)(h:Mb w b t cs):Mb (w.putObj l o') b t cs:=c7t hl ho h rfl
def g0f(hl:X.w.heap[l]?=some o)(ho:d0t o=true){a:U.AV}{v:A5}(ha:AVR X a v):AVR (X.pu l o') a v:=by cases a<;>simp only[AVR]at*<;>first|exact d3j hl ho ha|(let⟨vs,hv,hr⟩:=ha;exact⟨vs,hv,hr.mono λ_ _ hh=>d3j hl ho hh⟩)|(let⟨u,hv,hr⟩:=ha;exact⟨u,hv,d3j hl ho hr⟩)|(let⟨bb,mb,hv,⟨h1,h2⟩,⟨h3,h4⟩,h5,h6,h7⟩:=ha;exact⟨bb,mb,hv,⟨by show bb<(X.w.putObj l o').heap.size;simp_all,h2⟩,⟨by show mb<(X.w.putObj l o').heap.size;simp_all,h4⟩,g4h hl ho h5,h6,c7t hl ho h7 rfl⟩)|(let⟨bb,sv,hv,⟨h1,h2⟩,h5,h6⟩:=ha;exact⟨bb,sv,hv,⟨by show bb<(X.w.putObj l o').heap.size;simp_all,h2⟩,g4h hl ho h5,c57 hl ho (e5p hl ho _) h6⟩)
def h3a(hl:X.w.heap[l]?=some o)(ho:d0t o=true){m:U.MC}{v:A5}(hm:MR X m v):MR (X.pu l o') m v:=by
 cases m<;>simp [MR]at*;case box t a=>let⟨b,u,hv,hM,ha⟩:=hm;exact⟨b,u,hv,g4h hl ho hM,d3j hl ho ha⟩
 case sl e c q=>
  let⟨css,hO,hr⟩:=hm;refine⟨css,?_,hr.mono λ_ _ hh=>e5p hl ho _ _ _ hh⟩;rcases hO with hO|⟨g,off,cap,cur,hv,hg,hh,r⟩;.exact .inl hO
  .exact .inr ⟨g,off,cap,cur,hv,hg,c7t hl ho hh rfl,r⟩
 case fz c q=>exact c57 hl ho (e5p hl ho _) hm
 case it s p=>let⟨b,hv,h0,hh⟩:=hm;exact⟨b,hv,h0,c7t hl ho hh rfl⟩
 case mp q=>let⟨b,hv,h0,hh⟩:=hm;exact⟨b,hv,h0,c7t hl ho hh rfl⟩
end
section
variable {E:Env} {Z:Nat -> Prop} {π:Nat -> A5} {σ:U.St} {ρ:Nat -> A5} {w:World}
def Rel.pu(hU:UOK U)(h:Rel E Z π σ ρ w){l:Nat}{o o':Obj}(hB:E.w0.heap.size<=l)(hl:w.heap[l]?=some o)(ho:d0t o=true):Rel E Z π σ ρ (w.putObj l o'):=⟨λt=>g0f hl ho (h.slot t),λid=>h3a hl ho (h.mem id),λid b hb=>by let⟨h1,h2,h3⟩:=h.own id b hb;simp_all,h.dist,λb hb=>by rw[World.putObj_size];exact h.zlt b hb,h.zin,h.zout,⟨h.ext.os,h.ext.tape,h.ext.output,by rw[World.putObj_size];grind,λb hb hg=>(World.putObj_heap_other (by omega)).trans (h.ext.block b hb hg)⟩,h.pin,h.tab⟩
def Rel.al(h:Rel E Z π σ ρ w)(o:Obj):Rel E Z π σ ρ (w.alloc o):=h.val (d:=none) (a:=.unk) (v:=undef) (Ext.alloc noG w o) trivial
end
end
end Go.SX
namespace Go.SX
open Go Go.PL Go.RowKit
def e3m{r:A3 Nat}{m m':Nat}{P:Program}{c:Code}{Q:Exit->Act->World->Prop}{a:Act}{w:World}(h:c.wpIn (FR r) m P Q a w):c.wpIn (FR r) m' P Q a w:=λb k cs hro hb _=>h b k cs hro hb λd hd=>by cases hd
structure StillQ(B:Nat)(I:World->Prop):Prop where al:∀W o,I W->I (W.alloc o)pu:∀W l o o',B<=l->W.heap[l]?=some o->d0t o=true->I W->I (W.putObj l o')
structure KeepsQ(B:Nat)(W W':World):Prop where
 size:W.heap.size<=W'.heap.size
 same:∀(k:Nat)(o:Obj),B<=k->W.heap[k]?=some o->d0t o=true->W'.heap[k]?=some o
def c0v(B:Nat)(W W':World):Prop:=∀(k:Nat)(m:A3 Nat)(s:Nat)(q:Array Nat)(c:Nat),B<=k->W.heap[k]?=some (.mapIter m s q c)->q.isEmpty=false->W'.heap[k]?=some (.mapIter m s q c)
def KeepsQ.m{B:Nat}{W W':World}(h:KeepsQ B W W'):c0v B W W':=λk m s q c hk hw hq=>h.same k _ hk hw (by simp[d0t,hq])
def c0v.trans{B:Nat}{W W1 W2:World}(h:c0v B W W1)(h2:c0v B W1 W2):c0v B W W2:=λk m s q c hk hw hq=>h2 k m s q c hk (h k m s q c hk hw hq) hq
def c0v.put{B l:Nat}{W:World}{r:Loop}{o:Obj}(hl:W.heap[l]?=some (.loop r)):c0v B W (W.putObj l o):=λk m s q c hk hw hq=>by
 have hne:k≠l:=λe=>by simp_all
 rw[World.putObj_heap_other hne];omega
def g9r(B:Nat)(I':World->Prop)(Ix:Code->World->Prop)(W:World):Exit->Act->World->Prop|.normal,_,W'=>KeepsQ B W W'/\I' W'|.ret,_,W'=>KeepsQ B W W'/\Ix .ret W'|.exit id,_,W'=>KeepsQ B W W'/\Ix (.exit id) W'|_,_,_=>False
def e3d{W:World}{l:Nat}{r:Loop}(h:W.heap[l]?=some (.loop r)):l<W.heap.size:=(qN.1 h).1
def f7x{P:Program}{g:Operand}{ps:Array Tmp}{assign body:Code}{Q:Exit->Act->World->Prop}{a:Act}{w:World}{gf:Nat}{lb:Array A5}(hg:a.eval g=.func (.func gf) #[] lb)(eg:∀args w,(callFunc gf args).run P w=.ok (.enter gf args) w)(enc:Nat->Array A5)(len:Nat)(hps:∀k,(enc k).size=ps.size)(I:Nat->World->Prop)(Ix:Nat->Code->World->Prop)(Ax:Nat->Act->World->Prop)(hit:∀(l:Nat)(J Jx:Nat->World->Prop)(W:World),Below w.heap.size w W->(∀k W1,J k W1->I k W1)->(∀k W1 o,J k W1->J k (W1.alloc o))->(∀k W1,J k W1->k<len->YieldAt (FR none) 7 P l (enc k) W1 λe W'=>(e=.returned (.bool true)/\J (k+1) W'/\c0v w.heap.size W1 W')\/(e=.returned (.bool false)/\Jx (k+1) W'))->J 0 W->CallsIn (FR none) 8 P gf (#[.func (.yield l) #[] #[]]++lb) W λe W'=>(∃v,e=.returned v)/\(J len W'\/∃k,k<=len/\Jx k W'))(cI:∀k,StillQ w.heap.size (I k))(cX:∀k c,StillQ w.heap.size (Ix k c))(cA:∀k a',StillQ w.heap.size (Ax k a'))(h0:I 0 w)(hass:∀(l k:Nat)(W:World),I k W->k<len->assign.wpIn (FR (some l)) 7 P (Exit.then (λa' W'=>KeepsQ w.heap.size W W'/\Ax k a' W') (λ_ _ _=>False)) {tmps:=(ps.zip (enc k)).foldl (λt(p,v)=>t.setIfInBounds p v) a.tmps,defers:=[]} W)(hbody:∀(l k:Nat)(a':Act)(W:World),Ax k a' W->k<len->body.wpIn (FR (some l)) 7 P (g9r w.heap.size (I (k+1)) (Ix (k+1)) W) a' W)(hdone:∀(D:Nat)(W:World),w.heap.size<=D->I len W->W.heap[D]?=some (.deferred (some []))->Q .normal {a with defers:={target:=.collected D,args:=#[]}::a.defers} W)(hstop:∀(D k:Nat)(c:Code)(W:World),w.heap.size<=D->k<=len->Ix k c W->W.heap[D]?=some (.deferred (some []))->c.wpIn (FR none) 9 P Q {a with defers:={target:=.collected D,args:=#[]}::a.defers} W):(Code.rangeFunc g ps assign body).wpIn (FR none) 9 P Q a w:=by
 have b1:Below w.heap.size w (w.alloc (.deferred (some []))):=(Below.refl _ w).alloc (Nat.le_refl _) _;refine wpIn_rangeFunc λfn hfn=>?_;let R:LoopState->A3 Code->Loop:=λs j=>{state:=s,pending:=j,fn,tmps:=a.tmps,params:=ps,assign,body,defers:=w.heap.size};let V:=(w.alloc (.deferred (some []))).alloc (.loop (R .ready none));have vD:V.heap[w.heap.size]?=some (.deferred (some [])):=(Below.heap_alloc _ _ _ (by simp)).trans (World.alloc_heap_new w _);have vL:=by have:=World.alloc_heap_new (w.alloc (.deferred (some []))) (.loop (R .ready none));rwa[World.size_alloc]at this
 have vI:I 0 V:=(cI 0).al _ _ ((cI 0).al _ _ h0);have vB:Below w.heap.size w V:=b1.alloc (by simp) _;have henter:(Instr.enterLoop fn a.tmps ps assign body (FR none).round).run P w=.ok (w.heap.size+1,[{target:=.collected w.heap.size,args:=#[]}]) V:=run_enterLoop_outer _ _ _ _ _;have hres:(resolve a.eval (rangeCall g (w.heap.size+1)) 0).run P V=.ok {target:=.fn (.func gf) lb,args:=#[.func (.yield (w.heap.size+1)) #[] #[]]} V:=by simp [resolve,hg];simp[go_sem]
 refine⟨_,_,V,_,V,gf,#[.func (.yield (w.heap.size+1)) #[] #[]]++lb,V,henter,hres,?_,?_,λ_=>by decide,?_⟩;.intro f' hf';trivial
 .simp[invoke,go_sem,eg]
 let Bk(s:LoopState)(j:A3 Code)(W:World):=W.heap[w.heap.size+1]?=some (.loop (R s j))/\W.heap[w.heap.size]?=some (.deferred (some []));have kd:∀{s j W}(s':LoopState)(j':A3 Code),Bk s j W->Bk s' j' (W.putObj (w.heap.size+1) (.loop (R s' j'))):=λ_ _ h=>⟨World.putObj_heap_same (e3d h.1),(World.putObj_heap_other (by omega)).trans h.2⟩;have kf:∀{s j W W'},KeepsQ w.heap.size W W'->Bk s j W->Bk s j W':=λhk h=>⟨hk.same _ _ (by omega) h.1 rfl,hk.same _ _ (Nat.le_refl _) h.2 rfl⟩;refine(hit (w.heap.size+1) (λk W=>I k W/\Bk .ready none W) (λk W=>∃c,Ix k c W/\Bk .done (some c) W) V vB (λk W1 h=>h.1) (λk W1 o h=>⟨(cI k).al _ _ h.1,(Below.heap_alloc _ _ _ (e3d h.2.1)).trans h.2.1,(Below.heap_alloc _ _ _ (qN.1 h.2.2).1).trans h.2.2⟩) ?_ ⟨vI,vL,vD⟩).mono ?_
 .intro k W⟨hi,hb⟩hk;refine⟨fn,_,assign,body,run_yield hb.1 (hps k),roundIn_of_wpIn hfn (wpIn_mono (hass _ k W hi hk) λe a' W' hp=>?_)⟩;cases e<;>first|exact hp.elim|skip
  let⟨hkf,ha'⟩:=hp;have hb':=kf hkf hb;refine⟨_,run_beginRound hb'.1 rfl,?_⟩;have hb2:Bk .busy none (W'.putObj (w.heap.size+1) (.loop (R .busy none))):=kd _ _ hb';refine wpIn_mono (hbody _ k a' _ ((cA k a').pu _ _ _ _ (by omega) hb'.1 rfl ha') hk) λe a3 W3 hp=>?_;have fin:∀(j:A3 Code),KeepsQ w.heap.size (W'.putObj (w.heap.size+1) (.loop (R .busy none))) W3->(Instr.endRound (w.heap.size+1) j).run P W3=.ok (.bool j.isNone) (W3.putObj (w.heap.size+1) (.loop (R (if j.isNone then .ready else .done) j)))/\Bk .busy none W3:=λj hk3=>⟨run_endRound j (kf hk3 hb2).1,kf hk3 hb2⟩;have out:∀(c:Code),KeepsQ w.heap.size (W'.putObj (w.heap.size+1) (.loop (R .busy none))) W3->Ix (k+1) c W3->∃v W4,(Instr.endRound (w.heap.size+1) (some c)).run P W3=.ok v W4/\((Ending.returned v=.returned (.bool true)/\(I (k+1) W4/\Bk .ready none W4)/\c0v w.heap.size W W4)\/(Ending.returned v=.returned (.bool false)/\∃c,Ix (k+1) c W4/\Bk .done (some c) W4)):=λc hk3 hx=>by let⟨hr,hb3⟩:=fin (some c) hk3;exact⟨_,_,hr,.inr ⟨rfl,c,(cX _ c).pu _ _ _ _ (by omega) hb3.1 rfl hx,kd _ _ hb3⟩⟩
  cases e with|normal=>let⟨hk3,hi3⟩:=hp;let⟨hr,hb3⟩:=fin none hk3;exact⟨_,_,hr,.inl ⟨rfl,⟨(cI _).pu _ _ _ _ (by omega) hb3.1 rfl hi3,kd _ _ hb3⟩,((hkf.m.trans (c0v.put hb'.1)).trans hk3.m).trans (c0v.put hb3.1)⟩⟩|ret=>exact out .ret hp.1 hp.2|exit id=>exact out (.exit id) hp.1 hp.2|goto t=>exact hp.elim|panic ch=>exact hp.elim|outgrown=>exact hp.elim
 .rintro e W2⟨⟨v,rfl⟩,⟨hi,hb⟩|⟨k,hk,c,hi,hb⟩⟩;.exact⟨none,_,run_endLoop hb.1 (by simp[R]),hdone _ _ (Nat.le_refl _) ((cI _).pu _ _ _ _ (by omega) hb.1 rfl hi) ((World.putObj_heap_other (by omega)).trans hb.2)⟩
  .exact⟨some c,_,run_endLoop hb.1 (by simp[R]),hstop _ k c _ (Nat.le_refl _) hk ((cX _ c).pu _ _ _ _ (by omega) hb.1 rfl hi) ((World.putObj_heap_other (by omega)).trans hb.2)⟩
def bw0(tS tE tI tB tY:TypeId):O Oper:=[{dst:=some 4,op:=Op.load tS (Operand.tmp 1),type:=tS,pos:= "iter.go:28",after:=#[],guard:=none},{dst:=some 5,op:=Op.call {callee:=Callee.builtin Builtin.len,args:=#[Operand.tmp 4],argTypes:=#[tS]},type:=tI,pos:= "iter.go:28",after:=#[{on:=0,ground:=Ground.data}],guard:=none},{dst:=some 6,op:=Op.binOp BinOp.sub tI (Operand.tmp 5) (Operand.const (Value.int IntKind.i64 1)) tI,type:=tI,pos:= "iter.go:28",after:=#[{on:=1,ground:=Ground.data}],guard:=none},{dst:=some 3,op:=Op.assign (Operand.tmp 6),type:=tI,pos:= "iter.go:28",after:=#[{on:=2,ground:=Ground.data},{on:=0,ground:=Ground.phase},{on:=1,ground:=Ground.phase},{on:=2,ground:=Ground.phase}],guard:=none}]
def bw1(tS tE tI tB tY:TypeId):O Oper:=[{dst:=some 7,op:=Op.move (Operand.tmp 3),type:=tI,pos:= "iter.go:28",after:=#[],guard:=none},{dst:=some 8,op:=Op.binOp BinOp.geq tI (Operand.tmp 7) (Operand.const (Value.int IntKind.i64 0)) tI,type:=tB,pos:= "iter.go:28",after:=#[{on:=0,ground:=Ground.data}],guard:=none}]
def bw2(tS tE tI tB tY:TypeId):O Oper:=[{dst:=some 9,op:=Op.move (Operand.tmp 3),type:=tI,pos:= "iter.go:28",after:=#[],guard:=none},{dst:=some 10,op:=Op.binOp BinOp.sub tI (Operand.tmp 9) (Operand.const (Value.int IntKind.i64 1)) tI,type:=tI,pos:= "iter.go:28",after:=#[{on:=0,ground:=Ground.data}],guard:=none},{dst:=some 3,op:=Op.assign (Operand.tmp 10),type:=tI,pos:= "iter.go:28",after:=#[{on:=1,ground:=Ground.data},{on:=0,ground:=Ground.phase},{on:=1,ground:=Ground.phase}],guard:=none}]
def bw3(tS tE tI tB tY:TypeId):O Oper:=[{dst:=some 11,op:=Op.move (Operand.tmp 0),type:=tY,pos:= "iter.go:29",after:=#[],guard:=none},{dst:=some 12,op:=Op.move (Operand.tmp 3),type:=tI,pos:= "iter.go:29",after:=#[],guard:=none},{dst:=some 13,op:=Op.load tS (Operand.tmp 1),type:=tS,pos:= "iter.go:29",after:=#[],guard:=none},{dst:=some 14,op:=Op.move (Operand.tmp 3),type:=tI,pos:= "iter.go:29",after:=#[],guard:=none},{dst:=some 15,op:=Op.indexAddr tS (Operand.tmp 13) (Operand.tmp 14),type:=0,pos:= "iter.go:29",after:=#[{on:=2,ground:=Ground.data},{on:=3,ground:=Ground.data}],guard:=none},{dst:=some 16,op:=Op.load tE (Operand.tmp 15),type:=tE,pos:= "iter.go:29",after:=#[{on:=4,ground:=Ground.data}],guard:=none},{dst:=some 17,op:=Op.call {callee:=Callee.value (Operand.tmp 11),args:=#[Operand.tmp 12,Operand.tmp 16],argTypes:=#[tI,tE]},type:=tB,pos:= "iter.go:29",after:=#[{on:=0,ground:=Ground.data},{on:=1,ground:=Ground.data},{on:=5,ground:=Ground.data}],guard:=none},{dst:=some 18,op:=Op.unOp UnOp.not tB (Operand.tmp 17),type:=tB,pos:= "iter.go:29",after:=#[{on:=6,ground:=Ground.data}],guard:=none}]
def f9i(tS tE tI tB tY:TypeId):Code:=(Code.seq (Code.region 0 (bw0 tS tE tI tB tY).toArray false) (Code.block 0 (Code.loop (Code.seq (Code.seq (Code.region 1 (bw1 tS tE tI tB tY).toArray false) (Code.cond (Operand.tmp 8) Code.skip (Code.exit 0))) (Code.seq (Code.block 1 (Code.seq (Code.region 3 (bw3 tS tE tI tB tY).toArray false) (Code.cond (Operand.tmp 18) Code.ret Code.skip))) (Code.region 2 (bw2 tS tE tI tB tY).toArray false))))))
def e0i{n:Int}(h0:-9223372036854775808<=n)(h1:n<=9223372036854775807):IntKind.i64.wrap n=n:=by rw[IntKind.wrap_i64];omega
def a1q{P:Program}{n m:Nat}{r:A3 Nat}{ops:O Oper}(hT:Plan.okTmps ops n=true)(hS:Plan.okSel ops=true){Q:Exit->Act->World->Prop}{ρ:Nat->A5}{ds:O Deferred}{w:World}{i:Nat}{rest:O Nat}{o:Oper}{v:A5}(ho:ops[i]?=some o)(hg:o.guard=none)(hy:YV P (ev ρ) w o v)(hk:wpOpsIn (FR r) m P ops.toArray Q rest (Frd n (b20 ρ o.dst v) ds) w):wpOpsIn (FR r) m P ops.toArray Q (i::rest) (Frd n ρ ds) w:=by
 rw[wpOpsIn_cons];unfold wpOpIn;simp [getElem?_toArray,ho];rw[if_pos (by simp[Region.wanted,hg])];refine a0k.wp (K:=λu w'=>u=v/\w'=w) ?_ ?_;.unfold a0k;rw[c0s hT hS ho ρ];simp_all
 .rintro u w'⟨rfl,rfl⟩;rw[c6r];omega
def d87{P:Program}{n m:Nat}{r:A3 Nat}{ops:O Oper}(hT:Plan.okTmps ops n=true)(hS:Plan.okSel ops=true){Q:Exit->Act->World->Prop}{ρ:Nat->A5}{ds:O Deferred}{w:World}{i:Nat}{rest:O Nat}{o:Oper}(ho:ops[i]?=some o)(hg:o.guard=none)(hd:∀c,o.op≠.defer c){l:Nat}{f:FuncId}{tmps:Array A5}{assign body:Code}(hy:(execOp (ev ρ) o).run P w=.ok (.round l f tmps assign body) w){R:Ending->World->Prop}(hR:RoundIn (FR r) (m-1) P l f tmps assign body w R)(hk:∀e w',R e w'->∃v,e=.returned v/\wpOpsIn (FR r) m P ops.toArray Q rest (Frd n (b20 ρ o.dst v) ds) w'):wpOpsIn (FR r) m P ops.toArray Q (i::rest) (Frd n ρ ds) w:=by rw[wpOpsIn_cons];unfold wpOpIn;simp [getElem?_toArray,ho];rw[if_pos (by simp[Region.wanted,hg])];refine⟨λ_ _=>trivial,?_⟩;rw[Oper.semAt_eq _ _ _ hd,c0s hT hS ho ρ,hy];refine⟨λhh=>Bool.noConfusion (show false=true from hh),hR.mono ?_⟩;intro e w' he;obtain⟨v,rfl,h⟩:=hk e w' he;show wpOpsIn (FR r) m P ops.toArray Q rest ((Frd n ρ ds).put o.dst v) w';rw[c6r];omega
def c9e{n:Nat}(args:O A5)(h:args.length<=n):({tmps:=args.toArray++Array.replicate (n-args.toArray.size) undef,defers:=[]}:Act)=Frd n (λt=>args.getD t undef) []:=by
 congr 1;apply Array.ext;.simp_all
 .intro i h1 h2;rcases Nat.lt_or_ge i args.length with h3|h3;.simp[h3]
  simp_all
def g8v{P:Program}{f:FuncId}{fn:Func}{tS tE tI tB tY:TypeId}{n:Nat}(hf:P.funcs[f]?=some fn)(hb:fn.body=some (f9i tS tE tI tB tY))(hn:fn.ntmps=19)(hres:fn.results=#[])(hS:P.underlying tS=some (.slice tE))(hE:(P.info? tE).map (·.size)=some n){l Bs len cap:Nat}{av:A3 Addr}(hlen:len<=9223372036854775807)(hcap:len<=cap){vs:Nat->A5}(J Jx:Nat->World->Prop)(hJ:∀k W1,J k W1->(Instr.loadAt tS (.pointer (some ⟨Bs,0,none⟩))).run P W1=.ok (.slice av len cap) W1/\∀j,j<len->∃ad,av=some ad/\(Instr.loadAt tE (.pointer (some (ad.add (j*n))))).run P W1=.ok (vs j) W1)(hY:∀k W1,J k W1->k<len->YieldAt (FR none) 7 P l #[.int .i64 ((len-1-k:Nat):Int),vs (len-1-k)] W1 λe W'=>(e=.returned (.bool true)/\J (k+1) W')\/(e=.returned (.bool false)/\Jx (k+1) W'))(W:World)(h0:J 0 W):CallsIn (FR none) 8 P f #[.func (.yield l) #[] #[],.pointer (some ⟨Bs,0,none⟩)] W λe W'=>(∃v,e=.returned v)/\(J len W'\/∃k,k<=len/\Jx k W'):=by
 refine callsIn_of_wp hf hb trivial ?_ rfl;have ha:=c9e (n:=19) [Value.func (.yield l) #[] #[],.pointer (some ⟨Bs,0,none⟩)] (by simp);rw[show({tmps:=#[Value.func (.yield l) #[] #[],.pointer (some ⟨Bs,0,none⟩)]++Array.replicate (fn.ntmps-(#[Value.func (.yield l) #[] #[],.pointer (some ⟨Bs,0,none⟩)]:Array A5).size) undef,defers:=[]}:Act)=Frd 19 (λt=>[Value.func (.yield l) #[] #[],.pointer (some ⟨Bs,0,none⟩)].getD t undef) []from by rw[hn];omega];have fin:∀(ρ:Nat->A5)(W':World),(J len W'\/∃k,k<=len/\Jx k W')->∃v,(results fn (Frd 19 ρ []).tmps).run P W'=.ok v W'/\(∃v',Ending.returned v=.returned v')/\(J len W'\/∃k,k<=len/\Jx k W'):=λρ W' h=>⟨_,by simp[results,hres];rfl,⟨_,rfl⟩,h⟩;let⟨hl0,_⟩:=hJ 0 W h0;refine wpIn_seq (wpIn_region ?_);refine a1q rfl rfl rfl rfl (d32 rfl hl0) ?_;refine a1q rfl rfl rfl rfl (f6w rfl (by simp[Builtin.len_,run_underlying hS];rfl)) ?_;refine a1q rfl rfl rfl rfl (g52 rfl rfl (e0i (by omega) (by omega))) ?_;refine a1q rfl rfl rfl rfl (b7t rfl) ?_;refine wpIn_block (wpIn_loop_rounds (len+1) ?_);have key:∀(r k:Nat)(ρ:Nat->A5)(W1:World),k+r=len->ρ 0=.func (.yield l) #[] #[]->ρ 1=.pointer (some ⟨Bs,0,none⟩)->ρ 3=.int .i64 ((r:Int)-1)->J k W1->Code.roundsIn (FR none) 8 P (Code.seq (Code.seq (Code.region 1 (bw1 tS tE tI tB tY).toArray false) (Code.cond (Operand.tmp 8) Code.skip (Code.exit 0))) (Code.seq (Code.block 1 (Code.seq (Code.region 3 (bw3 tS tE tI tB tY).toArray false) (Code.cond (Operand.tmp 18) Code.ret Code.skip))) (Code.region 2 (bw2 tS tE tI tB tY).toArray false)))
    (Exit.inBlock 0 (bodyPost P fn λe W'=>(∃v,e=.returned v)/\(J len W'\/∃k,k<=len/\Jx k W'))) (r+1) (Frd 19 ρ []) W1:=by intro r;induction r with|zero=>
    intro k ρ W1 hk r0 r1 r3 hj;obtain rfl:k=len:=by omega
    refine wpIn_seq (wpIn_seq (wpIn_region ?_));refine a1q rfl rfl rfl rfl (c08 (v:=.int .i64 (-1)) (by rw[show ev ρ (.tmp 3)=ρ 3from rfl,r3];rfl)) ?_;refine a1q rfl rfl rfl rfl (g54 rfl rfl rfl) ?_;exact wpIn_cond_false (by rw[b75 rfl];rfl) (wpIn_exit (by exact⟨rfl,fin _ _ (.inl hj)⟩))|succ r ih=>
    intro k ρ W1 hk r0 r1 r3 hj;let⟨hl,hel⟩:=hJ k W1 hj;obtain⟨ad,rfl,hld⟩:=hel r (by omega);refine wpIn_seq (wpIn_seq (wpIn_region ?_));refine a1q rfl rfl rfl rfl (c08 (v:=.int .i64 (r:Int)) (by rw[show ev ρ (.tmp 3)=ρ 3from rfl,r3];congr 1;omega)) ?_;refine a1q rfl rfl rfl rfl (g54 (q:=true) rfl rfl (by simp)) ?_;refine wpIn_cond_true (by rw[b75 rfl];rfl) (wpIn_skip ?_);refine wpIn_seq (wpIn_block (wpIn_seq (wpIn_region ?_)));have e3:ρ 3=.int .i64 (r:Int):=by rw[r3];congr 1;omega
    refine a1q rfl rfl rfl rfl (c08 r0) ?_;refine a1q rfl rfl rfl rfl (c08 e3) ?_;refine a1q rfl rfl rfl rfl (d32 r1 hl) ?_;refine a1q rfl rfl rfl rfl (c08 e3) ?_;refine a1q rfl rfl rfl rfl (a9v rfl rfl (by have:=c4r (w:=W1) (a:=ad) (n:=len) (c:=cap) (i:=(r:Int)) hS hE ⟨by omega,by omega⟩;rwa[Int.toNat_natCast]at this)) ?_;refine a1q rfl rfl rfl rfl (d32 rfl hld) ?_;let⟨f',tmps,assign,body,hy,hR⟩:=hY k W1 hj (by omega);rw[show len-1-k=r from by omega]at hy;refine d87 rfl rfl rfl rfl (λ_ h=>by cases h) (by simpa[execOp,resolve,ev,b20,upd,Deferred.ofValue,invoke]using hy) hR ?_;rintro e W2(⟨rfl,hj2⟩|⟨rfl,hx2⟩);.refine⟨_,rfl,?_⟩;refine a1q rfl rfl rfl rfl (f0z rfl rfl) ?_;refine wpIn_cond_false (by rw[b75 rfl];rfl) (wpIn_skip ?_);refine wpIn_region ?_;refine a1q rfl rfl rfl rfl (c08 e3) ?_;refine a1q rfl rfl rfl rfl (g52 rfl rfl (e0i (by omega) (by omega))) ?_;refine a1q rfl rfl rfl rfl (b7t rfl) ?_;exact ih (k+1) _ W2 (by omega) r0 r1 rfl hj2
    .refine⟨_,rfl,?_⟩;refine a1q rfl rfl rfl rfl (f0z rfl rfl) ?_;exact wpIn_cond_true (by rw[b75 rfl];rfl) (wpIn_ret ⟨rfl,fin _ _ (.inr ⟨k+1,by omega,hx2⟩)⟩)
 exact key len 0 _ W (by omega) rfl rfl rfl h0
def vl0(tS tE tI tB tY:TypeId):O Oper:=[{dst:=some 5,op:=Op.load tS (Operand.tmp 1),type:=tS,pos:= "iter.go:39",after:=#[],guard:=none},{dst:=some 6,op:=Op.call {callee:=Callee.builtin Builtin.len,args:=#[Operand.tmp 5],argTypes:=#[tS]},type:=tI,pos:= "iter.go:39",after:=#[{on:=0,ground:=Ground.data}],guard:=none},{dst:=some 7,op:=Op.move (Operand.const (Value.int IntKind.i64 0)),type:=tI,pos:= "iter.go:39",after:=#[],guard:=none}]
def vl1(tS tE tI tB tY:TypeId):O Oper:=[{dst:=some 8,op:=Op.binOp BinOp.lss tI (Operand.tmp 7) (Operand.tmp 6) tI,type:=0,pos:= "iter.go:39",after:=#[],guard:=none}]
def vl2(tS tE tI tB tY:TypeId):O Oper:=[{dst:=some 9,op:=Op.indexAddr tS (Operand.tmp 5) (Operand.tmp 7),type:=0,pos:= "iter.go:39",after:=#[],guard:=none},{dst:=some 10,op:=Op.load tE (Operand.tmp 9),type:=tE,pos:= "iter.go:39",after:=#[{on:=0,ground:=Ground.data}],guard:=none},{dst:=some 4,op:=Op.assign (Operand.tmp 10),type:=tE,pos:= "iter.go:39",after:=#[{on:=1,ground:=Ground.data},{on:=0,ground:=Ground.phase},{on:=1,ground:=Ground.phase}],guard:=none}]
def vl3(tS tE tI tB tY:TypeId):O Oper:=[{dst:=some 11,op:=Op.move (Operand.tmp 0),type:=tY,pos:= "iter.go:40",after:=#[],guard:=none},{dst:=some 12,op:=Op.move (Operand.tmp 4),type:=tE,pos:= "iter.go:40",after:=#[],guard:=none},{dst:=some 13,op:=Op.call {callee:=Callee.value (Operand.tmp 11),args:=#[Operand.tmp 12],argTypes:=#[tE]},type:=tB,pos:= "iter.go:40",after:=#[{on:=0,ground:=Ground.data},{on:=1,ground:=Ground.data}],guard:=none},{dst:=some 14,op:=Op.unOp UnOp.not tB (Operand.tmp 13),type:=tB,pos:= "iter.go:40",after:=#[{on:=2,ground:=Ground.data}],guard:=none}]
def vl4(tS tE tI tB tY:TypeId):O Oper:=[{dst:=some 15,op:=Op.binOp BinOp.add tI (Operand.tmp 7) (Operand.const (Value.int IntKind.i64 1)) tI,type:=tI,pos:= "iter.go:39",after:=#[],guard:=none},{dst:=some 7,op:=Op.move (Operand.tmp 15),type:=tI,pos:= "iter.go:39",after:=#[{on:=0,ground:=Ground.data}],guard:=none}]
def g06(tS tE tI tB tY:TypeId):Code:=(Code.seq (Code.region 0 (vl0 tS tE tI tB tY).toArray false) (Code.block 0 (Code.loop (Code.seq (Code.region 1 (vl1 tS tE tI tB tY).toArray false) (Code.seq (Code.cond (Operand.tmp 8) Code.skip (Code.exit 0)) (Code.seq (Code.block 1 (Code.seq (Code.region 2 (vl2 tS tE tI tB tY).toArray false) (Code.seq (Code.region 3 (vl3 tS tE tI tB tY).toArray false) (Code.cond (Operand.tmp 14) Code.ret Code.skip)))) (Code.region 4 (vl4 tS tE tI tB tY).toArray false)))))))
def h1e{P:Program}{f:FuncId}{fn:Func}{tS tE tI tB tY:TypeId}{n:Nat}(hf:P.funcs[f]?=some fn)(hb:fn.body=some (g06 tS tE tI tB tY))(hn:fn.ntmps=16)(hres:fn.results=#[])(hS:P.underlying tS=some (.slice tE))(hE:(P.info? tE).map (·.size)=some n){l Bs len cap:Nat}{av:A3 Addr}(hlen:len<=9223372036854775807)(hcap:len<=cap){vs:Nat->A5}(J Jx:Nat->World->Prop)(hJ:∀k W1,J k W1->(Instr.loadAt tS (.pointer (some ⟨Bs,0,none⟩))).run P W1=.ok (.slice av len cap) W1/\∀j,j<len->∃ad,av=some ad/\(Instr.loadAt tE (.pointer (some (ad.add (j*n))))).run P W1=.ok (vs j) W1)(hY:∀k W1,J k W1->k<len->YieldAt (FR none) 7 P l #[vs k] W1 λe W'=>(e=.returned (.bool true)/\J (k+1) W')\/(e=.returned (.bool false)/\Jx (k+1) W'))(W:World)(h0:J 0 W):CallsIn (FR none) 8 P f #[.func (.yield l) #[] #[],.pointer (some ⟨Bs,0,none⟩)] W λe W'=>(∃v,e=.returned v)/\(J len W'\/∃k,k<=len/\Jx k W'):=by
 refine callsIn_of_wp hf hb trivial ?_ rfl;have ha:=c9e (n:=16) [Value.func (.yield l) #[] #[],.pointer (some ⟨Bs,0,none⟩)] (by simp);rw[show({tmps:=#[Value.func (.yield l) #[] #[],.pointer (some ⟨Bs,0,none⟩)]++Array.replicate (fn.ntmps-(#[Value.func (.yield l) #[] #[],.pointer (some ⟨Bs,0,none⟩)]:Array A5).size) undef,defers:=[]}:Act)=Frd 16 (λt=>[Value.func (.yield l) #[] #[],.pointer (some ⟨Bs,0,none⟩)].getD t undef) []by rw[hn];omega];have fin:∀(ρ:Nat->A5)(W':World),(J len W'\/∃k,k<=len/\Jx k W')->∃v,(results fn (Frd 16 ρ []).tmps).run P W'=.ok v W'/\(∃v',Ending.returned v=.returned v')/\(J len W'\/∃k,k<=len/\Jx k W'):=λρ W' h=>⟨_,by simp[results,hres];rfl,⟨_,rfl⟩,h⟩;let⟨hl0,_⟩:=hJ 0 W h0;refine wpIn_seq (wpIn_region ?_);refine a1q rfl rfl rfl rfl (d32 rfl hl0) ?_;refine a1q rfl rfl rfl rfl (f6w rfl (by simp[Builtin.len_,run_underlying hS];rfl)) ?_;refine a1q rfl rfl rfl rfl (c08 rfl) ?_;refine wpIn_block (wpIn_loop_rounds (len+1) ?_);have key:∀(r k:Nat)(ρ:Nat->A5)(W1:World),k+r=len->ρ 0=.func (.yield l) #[] #[]->ρ 5=.slice av len cap->ρ 6=.int .i64 (len:Int)->ρ 7=.int .i64 (k:Int)->J k W1->Code.roundsIn (FR none) 8 P (Code.seq (Code.region 1 (vl1 tS tE tI tB tY).toArray false) (Code.seq (Code.cond (Operand.tmp 8) Code.skip (Code.exit 0)) (Code.seq (Code.block 1 (Code.seq (Code.region 2 (vl2 tS tE tI tB tY).toArray false) (Code.seq (Code.region 3 (vl3 tS tE tI tB tY).toArray false) (Code.cond (Operand.tmp 14) Code.ret Code.skip)))) (Code.region 4 (vl4 tS tE tI tB tY).toArray false))))
    (Exit.inBlock 0 (bodyPost P fn λe W'=>(∃v,e=.returned v)/\(J len W'\/∃k,k<=len/\Jx k W'))) (r+1) (Frd 16 ρ []) W1:=by intro r;induction r with|zero=>
    intro k ρ W1 hk r0 r5 r6 r7 hj;obtain rfl:k=len:=by omega
    refine wpIn_seq (wpIn_region ?_);refine a1q rfl rfl rfl rfl (g6f (q:=false) r7 r6 (by simp)) ?_;exact wpIn_seq (wpIn_cond_false (by rw[b75 rfl];rfl) (wpIn_exit (by exact⟨rfl,fin _ _ (.inl hj)⟩)))|succ r ih=>
    intro k ρ W1 hk r0 r5 r6 r7 hj;let⟨hl,hel⟩:=hJ k W1 hj;obtain⟨ad,rfl,hld⟩:=hel k (by omega);refine wpIn_seq (wpIn_region ?_);refine a1q rfl rfl rfl rfl (g6f (q:=true) r7 r6 (by simp;omega)) ?_;refine wpIn_seq (wpIn_cond_true (by rw[b75 rfl];rfl) (wpIn_skip ?_));refine wpIn_seq (wpIn_block (wpIn_seq (wpIn_region ?_)));refine a1q rfl rfl rfl rfl (a9v r5 r7 (by have:=c4r (w:=W1) (a:=ad) (n:=len) (c:=cap) (i:=(k:Int)) hS hE ⟨by omega,by omega⟩;rwa[Int.toNat_natCast]at this)) ?_;refine a1q rfl rfl rfl rfl (d32 rfl hld) ?_;refine a1q rfl rfl rfl rfl (b7t rfl) ?_;refine wpIn_seq (wpIn_region ?_);refine a1q rfl rfl rfl rfl (c08 r0) ?_;refine a1q rfl rfl rfl rfl (c08 rfl) ?_;let⟨f',tmps,assign,body,hy,hR⟩:=hY k W1 hj (by omega);refine d87 rfl rfl rfl rfl (λ_ h=>by cases h) (by simpa[execOp,resolve,ev,b20,upd,Deferred.ofValue,invoke]using hy) hR ?_;rintro e W2(⟨rfl,hj2⟩|⟨rfl,hx2⟩);.refine⟨_,rfl,?_⟩;refine a1q rfl rfl rfl rfl (f0z rfl rfl) ?_;refine wpIn_cond_false (by rw[b75 rfl];rfl) (wpIn_skip ?_);refine wpIn_region ?_;refine a1q rfl rfl rfl rfl (g98 r7 rfl (e0i (by omega) (by omega))) ?_;refine a1q rfl rfl rfl rfl (c08 rfl) ?_;exact ih (k+1) _ W2 (by omega) r0 r5 r6 (by rfl) hj2
    .refine⟨_,rfl,?_⟩;refine a1q rfl rfl rfl rfl (f0z rfl rfl) ?_;exact wpIn_cond_true (by rw[b75 rfl];rfl) (wpIn_ret ⟨rfl,fin _ _ (.inr ⟨k+1,by omega,hx2⟩)⟩)
 exact key len 0 _ W (by omega) rfl rfl rfl rfl h0
def d6t{α:Type}(p:Nat->Bool)(t:Nat):∀l:O (Nat×α),lk t (l.filter λq=>p q.1)=if p t=true then lk t l else none
 |[]=>by simp[lk]|(k,a)::r=>by
   have ih:=d6t p t r;have e:lk t ((k,a)::r)=bif Nat.beq k t then some a else lk t r:=rfl;rw[e];by_cases hk:p k=true;.rw[filter_cons_of_pos (by omega)];show(bif Nat.beq k t then some a else lk t (r.filter λq=>p q.1))=_;rw[ih];cases hb:Nat.beq k t with|true=>simp_all|false=>rfl
   .rw[filter_cons_of_neg (by omega),ih];cases hb:Nat.beq k t with|true=>simp_all|false=>rfl
section
variable {U:Uni}
def fil(ws:O Nat)(σ:U.St):U.St:=⟨σ.sl.filter λq=>!(ws.any (Nat.beq q.1)),σ.me,σ.nx⟩
def f7o(ws:O Nat)(σ:U.St)(t:Nat):(fil ws σ).slot t=if t∈ws then .unk else σ.slot t:=by
 unfold fil St.slot;rw[d6t (λk=>!(ws.any (Nat.beq k))) t σ.sl];by_cases h:t∈ws;.rw[if_pos h,if_neg (by simp_all)]
 .rw[if_neg h,if_pos (by
   have:ws.any (Nat.beq t)=false:=by cases hb:ws.any (Nat.beq t)with|true=>simp_all|false=>rfl
   simp_all)]
variable {E:Env} {Z:Nat -> Prop} {π:Nat -> A5} {σ:U.St} {ρ ρ2:Nat -> A5} {w:World}
def e8x(h:Rel E Z π σ ρ2 w){ws:O Nat}(hρ:∀t,t∉ws->ρ2 t=ρ t):Rel E Z π (fil ws σ) ρ w:=by
 refine⟨λt=>?_,h.mem,h.own,h.dist,h.zlt,h.zin,h.zout,h.ext,h.pin,h.tab⟩;have hc:cx Z π (fil ws σ) w=cx Z π σ w:=rfl;rw[f7o];split;.exact trivial
 .rename_i ht;rw[<-hρ t ht];exact h.slot t
def e1y(h:Rel E Z π σ ρ w){id b:Nat}(hb:MB (σ.mem id) (π id) b){o:Obj}(ho:w.heap[b]?=some o):d0t o=false:=by
 have hm:=h.mem id;cases hs:σ.mem id<;>rw[hs]at hb hm<;>first|exact hb.elim|skip
 case box t a=>let⟨b',u,hv,hM,_⟩:=hm;rw[hv]at hb;obtain rfl:=qH hb;rw[show w.heap[b']?=_ from hM]at ho;cases ho;rfl
 case sl e c l=>
  let⟨css,hO,_⟩:=hm;rcases hO with⟨hv,_⟩|⟨g,off,cap,cur,hv,_,hh,_⟩;.rw[hv]at hb;cases hb
  .rw[hv]at hb;obtain rfl:=qH hb;rw[show w.heap[g]?=_ from hh]at ho;cases ho;rfl
 case it s p=>let⟨b',hv,_,hh⟩:=hm;rw[hv]at hb;obtain rfl:=qH hb;rw[show w.heap[b']?=_ from hh]at ho;cases ho;rfl
 case mp l=>let⟨b',hv,_,hh⟩:=hm;rw[hv]at hb;obtain rfl:=qH hb;rw[show w.heap[b']?=_ from hh]at ho;cases ho;rfl
def g6t(B:Nat)(w:World):Nat->Prop:=λb=>B<=b/\∃o,w.heap[b]?=some o/\d0t o=true
def Rel.recs(h:Rel E Z π σ ρ w){B:Nat}(hB:E.w0.heap.size<=B):Rel E (λb=>Z b\/g6t B w b) π σ ρ w:=h.fzN (g6t B w) λb⟨h1,o,h2,h3⟩=>⟨(qN.1 h2).1,.inr (.inr (Nat.le_trans hB h1)),λid hb=>by rw[e1y h hb h2]at h3;grind⟩
def Rel.keeps{Z' Z1:Nat->Prop}{π':Nat->A5}{σ':U.St}{ρ':Nat->A5}{w':World}(h:Rel (E.re Z1 w) Z' π' σ' ρ' w'){B:Nat}(hz:∀b,g6t B w b->Z1 b):KeepsQ B w w':=⟨h.ext.size,λk o hk ho hr=>(h.ext.block k (qN.1 ho).1 λhg=>hg.2 (hz k ⟨hk,o,ho,hr⟩)).trans ho⟩
end
section
variable {U:Uni} {P:Program} {Φ:Phi U} {n:Nat}
def e94(D:Nat):Deferred:={target:=.collected D,args:=#[]}
def hdS(ws inv:O Nat)(al:O (Nat×Nat))(es:O (EK U.C))(σ:U.St)(s:Keep U es):U.St:=fil ws (e5d σ inv al es s)
def rfI(p0:A3 Tmp)(n k:Nat):Int:=match p0 with|some _=>(n:Int)-1-k|none=>k
def rfX(p0:A3 Tmp)(n k:Nat):Nat:=match p0 with|some _=>n-1-k|none=>k
def rfN(p0:A3 Tmp)(i:Int):Int:=match p0 with|some _=>i-1|none=>i+1
def rfE(p0:A3 Tmp)(n:Nat)(i:Int):Bool:=match p0 with|some _=>decide (i<0)|none=>decide (i>=(n:Int))
def rfS(p0:A3 Tmp)(n:Nat):Int:=match p0 with|some _=>(n:Int)-1|none=>0
def rfP(p0:A3 Tmp)(p1:Tmp):Array Tmp:=match p0 with|some p=>#[p,p1]|none=>#[p1]
def rfA(p0:A3 Tmp)(i:Nat)(v:A5):Array A5:=match p0 with|some _=>#[.int .i64 (i:Int),v]|none=>#[v]
def c7b(p0:A3 Tmp)(n k:Nat):rfI p0 n 0=rfS p0 n/\rfN p0 (rfI p0 n k)=rfI p0 n (k+1)/\rfE p0 n (rfI p0 n n)=true/\(k<n->rfE p0 n (rfI p0 n k)=false/\rfI p0 n k=(rfX p0 n k:Int)):=by cases p0 with|none=>exact⟨rfl,rfl,decide_eq_true (Int.le_refl _),λh=>⟨decide_eq_false (by show¬((k:Int)>=(n:Int));omega),rfl⟩⟩|some p=>exact⟨by show(n:Int)-1-((0:Nat):Int)=(n:Int)-1;omega,by show(n:Int)-1-k-1=(n:Int)-1-((k+1:Nat):Int);omega,decide_eq_true (by show(n:Int)-1-(n:Nat)<0;omega),λh=>⟨decide_eq_false (by show¬((n:Int)-1-k<0);omega),by show(n:Int)-1-k=((n-1-k:Nat):Int);omega⟩⟩
def d1n{R:Type}(P:Program)(Φ:Phi U)(pins:O Nat)(p0:A3 Tmp)(p1:Tmp)(as bd:Code)(ws inv:O Nat)(al:O (Nat×Nat))(es:O (EK U.C))(a1 a2:Ann U.C)(σ:U.St)(c:U.C)(l:O (U.T c))(k:Kont U R)(rec:Keep U es×Int->A3 R)(q:Keep U es×Int):A3 R:=if rfE p0 l.length q.2=true then k.norm (hdS ws inv al es σ q.1)else bindO (c7 l q.2) λx=>den P Φ pins as a1 (((hdS ws inv al es σ q.1).app p0 (.int .i64 q.2) []).app (some p1) (inj c x) []) ⟨λσ1=>den P Φ pins bd a2 σ1 ⟨λσ2=>bindO (d6e pins al es σ2) λs'=>rec (s',rfN p0 q.2),λid σ2=>bindO (d6e pins al es σ2) λs'=>k.exit id (hdS ws inv al es σ s'),λσ2=>bindO (d6e pins al es σ2) λs'=>k.ret (hdS ws inv al es σ s')⟩,λ_ _=>none,λ_=>none⟩
def g75{R:Type}(P:Program)(Φ:Phi U)(pins:O Nat)(p0:A3 Tmp)(p1:Tmp)(as bd:Code)(ws inv:O Nat)(al:O (Nat×Nat))(es:O (EK U.C))(a1 a2:Ann U.C)(σ:U.St)(c:U.C)(l:O (U.T c))(k:Kont U R):A3 R:=bindO (d6e pins al es σ) λs=>d9 FU (d1n P Φ pins p0 p1 as bd ws inv al es a1 a2 σ c l k) (s,rfS p0 l.length)
structure BackOK(P:Program)(up:Bool)(g:FuncId)(tS tE:TypeId)(n:Nat):Prop where
 fn:∃fn tI tB tY,P.funcs[g]?=some fn/\(match up with|true=>fn.body=some (g06 tS tE tI tB tY)/\fn.ntmps=16|false=>fn.body=some (f9i tS tE tI tB tY)/\fn.ntmps=19)/\fn.results=#[]enters:∀args w,(callFunc g args).run P w=.ok (.enter g args) w
 sl:P.underlying tS=some (.slice tE)sz:(P.info? tE).map (·.size)=some n
def PI(inv:O Nat)(σ:U.St)(ρ:Nat->A5)(Z:Nat->Prop)(W:World):Prop:=∀t,t∈inv->e09 (σ.slot t)=true->AVR (⟨Z,λ_=>undef,λ_=>False,W⟩:Cx) (σ.slot t) (ρ t)
def PI.le{inv:O Nat}{σ:U.St}{ρ:Nat->A5}{Z Z':Nat->Prop}{W W':World}(h:PI inv σ ρ Z W)(hz:∀b,Z b->Z' b)(hE:Ext (λb=>¬Z b) W W'):PI inv σ ρ Z' W':=λt ht hp=>AVR.le (X:=⟨Z,λ_=>undef,λ_=>False,W⟩) (X':=⟨Z',λ_=>undef,λ_=>False,W'⟩) ⟨hz,hE,λ_ h=>h.elim⟩ (h t ht hp)
def PI.pu{inv:O Nat}{σ:U.St}{ρ:Nat->A5}{Z:Nat->Prop}{W:World}(h:PI inv σ ρ Z W){l:Nat}{o o':Obj}(hl:W.heap[l]?=some o)(ho:d0t o=true):PI inv σ ρ Z (W.putObj l o'):=λt ht hp=>g0f hl ho (h t ht hp)
variable {E:Env} {Z:Nat -> Prop} {π:Nat -> A5} {σ:U.St} {ρ:Nat -> A5} {w:World}
def f09(hU:UOK U)(hΦ:OKΦ P Φ)(hm:P.follows .mixedOrders=true){pins:O Nat}{R:Type}{it p1:Tmp}{p0:A3 Tmp}{as bd:Code}{ws inv:O Nat}{al:O (Nat×Nat)}{es:O (EK U.C)}{a1 a2:Ann U.C}{c:U.C}{l:O (U.T c)}{k:Kont U R}{r:R}{g:FuncId}{tS tE:TypeId}(hg:BackOK P p0.isNone g tS tE (U.n c))(hfS:b33 P tS (.list c l:U.AV)=true)(hfE:∀x:U.T c,b33 P tE (inj c x)=true)(hcA:a3z n as=true)(hcB:a3z n bd=true)(hna:d0p as=true)(hnb:d0p bd=true)(hws:∀t,t∉ws->t∉b5k as/\t∉b5k bd/\p0≠some t/\t≠p1)(hinv:∀t,t∈inv->t∉ws)(hitn:it<n)(hpin:∀i,E.pin i↔i∈pins)(hR:Rel E Z π σ ρ w){Bs:Nat}{sv:A5}(hit:ρ it=.func (.func g) #[] #[.pointer (some ⟨Bs,0,none⟩)])(hbox:Mb w Bs tS [sv])(hBs:Z Bs)(hl:k9 (Rp c) (λb=>¬Z b) w sv l)(hden:g75 P Φ pins p0 p1 as bd ws inv al es a1 a2 σ c l k=some r){ds:O Deferred}{Q:Exit->(Nat->A5)->O Deferred->World->Prop}(hQn:∀σ' Z' π' W D,Rel E Z' π' σ' ρ W->(∀b,Z b->Z' b)->Ext (λb=>¬Z b) w W->w.heap.size<=D->Z' D->W.heap[D]?=some (.deferred (some []))->k.norm σ'=some r->Q .normal ρ (e94 D::ds) W)(hQe:∀id σ' Z' π' W D,Rel E Z' π' σ' ρ W->(∀b,Z b->Z' b)->Ext (λb=>¬Z b) w W->w.heap.size<=D->Z' D->W.heap[D]?=some (.deferred (some []))->k.exit id σ'=some r->Q (.exit id) ρ (e94 D::ds) W)(hQr:∀σ' Z' π' W D,Rel E Z' π' σ' ρ W->(∀b,Z b->Z' b)->Ext (λb=>¬Z b) w W->w.heap.size<=D->Z' D->W.heap[D]?=some (.deferred (some []))->k.ret σ'=some r->Q .ret ρ (e94 D::ds) W):(Code.rangeFunc (.tmp it) (rfP p0 p1) as bd).wpIn (FR none) 9 P (λe a w'=>∃ρ' ds',a=Frd n ρ' ds'/\Q e ρ' ds' w') (Frd n ρ ds) w:=by
 let⟨s,hs,hden⟩:=c6b hden;let⟨Z2,π2,hz2,hR2⟩:=c46 hU hR hpin hs;have hPI:PI inv σ ρ Z2 w:=λt ht hp=>AVR.le (X:=⟨Z,λ_=>undef,λ_=>False,w⟩) (X':=⟨Z2,λ_=>undef,λ_=>False,w⟩) ⟨hz2,Ext.refl _ _,λ_ h=>h.elim⟩ (d0g hp (hR.slot t) rfl rfl);have hR4:Rel E Z2 π2 (hdS ws inv al es σ s) ρ w:=e8x (c7g hR2 λt ht hp=>d0g hp (hPI t ht hp) rfl rfl) λ_ _=>rfl;have hR5:=hR4.re hU;have hB1:(E.re Z2 w).w0.heap.size<=w.heap.size:=Nat.le_refl _;let⟨av,cap,hsv,hcap,hmax⟩:=hl.shape;have hlen:l.length<=9223372036854775807:=by
  have:maxLen=9223372036854775807:=by decide
  omega
 have hel:∀j,∃u:A5,∀x,l[j]?=some x->∃ad,av=some ad/\ad.block<w.heap.size/\Z ad.block/\a1p (⟨Z2,λ_=>undef,λ_=>False,w⟩:Cx) (inj c x) u/\CA w (ad.add (j*U.n c)) u.cells.toList:=by intro j;cases hx:l[j]?with|none=>exact⟨undef,λx h=>by cases h⟩|some x=>
    rcases hl with⟨_,e⟩|⟨a,cap',hv,_,_,hi⟩;.rw[e]at hx;simp at hx
    .let⟨cs,hrep,hlt,hz,hca⟩:=hi j x hx;have hz:=Classical.byContradiction λh=>hz h;have hrep':(Rp c).rep (⟨Z2,λ_=>undef,λ_=>False,w⟩:Cx).G w cs x:=(Rp c).weaken hrep λb _ hb hz'=>hb (hz2 b hz');let⟨u,hu,hA⟩:=d9e hU hrep';refine⟨u,λx' hx'=>?_⟩;cases hx';have hav:av=some a:=by rw[hsv]at hv;cases hv;rfl
     exact⟨a,hav,hlt,hz,hA,by rw[hu];exact hca⟩
 let⟨vs,hvs⟩:=Classical.axiomOfChoice hel;have facts:∀{σ1:U.St}{Z1 π1 W1},Rel (E.re Z2 w) Z1 π1 σ1 ρ W1->(Instr.loadAt tS (.pointer (some ⟨Bs,0,none⟩))).run P W1=.ok (.slice av l.length cap) W1/\∀j,j<l.length->∃ad,av=some ad/\(Instr.loadAt tE (.pointer (some (ad.add (j*U.n c))))).run P W1=.ok (vs j) W1:=by
  intro σ1 Z1 π1 W1 h1;have hle:Cx.Le (⟨Z2,λ_=>undef,λ_=>False,w⟩:Cx) (⟨Z1,λ_=>undef,λ_=>False,W1⟩:Cx):=⟨λb hb=>h1.zout b hb,h1.ext.mono λb hb hz=>hb.2 hz,λ_ h=>h.elim⟩;have same:=λb hb hz=>h1.ext.block b hb λhg=>hg.2 (hz2 b hz);refine⟨?_,λj hj=>?_⟩
  .have hA:=(show k9 (Rp c) (λb=>¬Z2 b) w sv l from hl.weaken λb _ hb hz=>hb (hz2 b hz));have hcell:=b1q hl;have hca:CA W1 ⟨Bs,0,none⟩ sv.cells.toList:=by rw[hcell];exact(hbox.ca).of_block (same Bs hbox.lt hBs)
   have:=c8g hU hfS (a1p.le hle hA) hca;rw[hsv]at this;omega
  .let⟨ad,hav,hlt,hz,hA,hca⟩:=hvs j _ (qG hj);exact⟨ad,hav,c8g hU (hfE _) (a1p.le hle hA) (hca.of_block (by rw[a2h];exact same _ hlt hz))⟩
 let BODY:=d1n P Φ pins p0 p1 as bd ws inv al es a1 a2 σ c l k;let kb(m:Nat)(i:Int):Kont U R:=⟨λσ2=>bindO (d6e pins al es σ2) λs'=>d9 m BODY (s',rfN p0 i),λid σ2=>bindO (d6e pins al es σ2) λs'=>k.exit id (hdS ws inv al es σ s'),λσ2=>bindO (d6e pins al es σ2) λs'=>k.ret (hdS ws inv al es σ s')⟩;let I:=λkk W=>∃m s1 Z1 π1,Rel (E.re Z2 w) Z1 π1 (hdS ws inv al es σ s1) ρ W/\PI inv σ ρ Z1 W/\d9 m BODY (s1,rfI p0 l.length kk)=some r;let Ix:Nat->Code->World->Prop:=λ_ cd W=>∃s1 Z1 π1,Rel (E.re Z2 w) Z1 π1 (hdS ws inv al es σ s1) ρ W/\((cd=.ret/\k.ret (hdS ws inv al es σ s1)=some r)\/∃id,cd=.exit id/\k.exit id (hdS ws inv al es σ s1)=some r);let Ax:=λkk a' W=>∃m ρ1 σ1 Z1 π1,a'=Frd n ρ1 []/\(∀t,t∉ws->ρ1 t=ρ t)/\Rel (E.re Z2 w) Z1 π1 σ1 ρ1 W/\PI inv σ ρ Z1 W/\den P Φ pins bd a2 σ1 (kb m (rfI p0 l.length kk))=some r;have alE:∀{Z1:Nat->Prop}(W:World)(o:Obj),Ext (λb=>¬Z1 b) W (W.alloc o):=λW o=>Ext.alloc _ W o;have back:∀{Z1 Z3 π3 W W2}{σ2:U.St}{ρ2:Nat->A5}{s':Keep U es},PI inv σ ρ Z1 W->(∀t,t∉ws->ρ2 t=ρ t)->(∀b,Z1 b->Z3 b)->Ext (λb=>¬Z1 b) W W2->Rel (E.re Z2 w) Z3 π3 σ2 ρ2 W2->d6e pins al es σ2=some s'->∃Z4 π4,Rel (E.re Z2 w) Z4 π4 (hdS ws inv al es σ s') ρ W2/\PI inv σ ρ Z4 W2:=by intro Z1 Z3 π3 W W2 σ2 ρ2 s' hp hρ hz hE h2 hs';let⟨Z4,π4,hz4,hR'⟩:=c46 hU h2 (λi=>hpin i) hs';have hp4:=hp.le (λb hb=>hz4 b (hz b hb)) hE;refine⟨Z4,π4,e8x (c7g hR' λt ht hpu=>?_) hρ,hp4⟩;rw[hρ t (hinv t ht)];exact d0g hpu (hp4 t ht hpu) rfl rfl
 have main:=f7x (g:=.tmp it) (ps:=rfP p0 p1) (assign:=as) (body:=bd) (Q:=λe a w'=>∃ρ' ds',a=Frd n ρ' ds'/\Q e ρ' ds' w') (a:=Frd n ρ ds) (by rw[b75 (by simpa[Operand.below]using hitn)];exact hit) hg.enters (λkk=>rfA p0 (rfX p0 l.length kk) (vs (rfX p0 l.length kk))) l.length (λ_=>by cases p0<;>rfl) I Ix Ax ?hit ?cI ?cX ?cA ⟨FU,s,Z2,π2,hR5,hPI,by rw[(c7b p0 l.length 0).1];omega⟩ ?hass ?hbody ?hdone ?hstop;.omega
 case hit=>
  intro l' J Jx W hBelow hJI _ hY h0;let⟨fn,tI,tB,tY,hf,hb,hres⟩:=hg.fn;have hB:∀kk W1,J kk W1->kk<l.length->YieldAt (FR none) 7 P l' (rfA p0 (rfX p0 l.length kk) (vs (rfX p0 l.length kk))) W1 λe W'=>(e=.returned (.bool true)/\J (kk+1) W')\/(e=.returned (.bool false)/\Jx (kk+1) W'):=λkk W1 hj hk=>by let⟨f1,t1,a1,b1,q1,q2⟩:=hY kk W1 hj hk;exact⟨f1,t1,a1,b1,q1,RoundIn.mono q2 λe W' h=>h.imp (λh=>⟨h.1,h.2.1⟩) λh=>h⟩
  cases p0 with|none=>exact h1e hf hb.1 hb.2 hres hg.sl hg.sz hlen hcap J Jx (λkk W1 hj=>by let⟨_,_,_,_,h1,_,_⟩:=hJI kk W1 hj;exact facts h1) hB W h0|some p=>exact g8v hf hb.1 hb.2 hres hg.sl hg.sz hlen hcap J Jx (λkk W1 hj=>by let⟨_,_,_,_,h1,_,_⟩:=hJI kk W1 hj;exact facts h1) hB W h0
 case cI=>intro kk;refine⟨λW o⟨m,s1,Z1,π1,h1,h2,h3⟩=>⟨m,s1,Z1,π1,h1.al o,h2.le (λ_ h=>h) (alE W o),h3⟩,λW l' o o' hB hl' ho⟨m,s1,Z1,π1,h1,h2,h3⟩=>⟨m,s1,Z1,π1,h1.pu hU hB hl' ho,h2.pu hl' ho,h3⟩⟩
 case cX=>intro kk cd;refine⟨λW o⟨s1,Z1,π1,h1,h2⟩=>⟨s1,Z1,π1,h1.al o,h2⟩,λW l' o o' hB hl' ho⟨s1,Z1,π1,h1,h2⟩=>⟨s1,Z1,π1,h1.pu hU hB hl' ho,h2⟩⟩
 case cA=>intro kk a';refine⟨λW o⟨m,ρ1,σ1,Z1,π1,e,hρ,h1,h2,h3⟩=>⟨m,ρ1,σ1,Z1,π1,e,hρ,h1.al o,h2.le (λ_ h=>h) (alE W o),h3⟩,λW l' o o' hB hl' ho⟨m,ρ1,σ1,Z1,π1,e,hρ,h1,h2,h3⟩=>⟨m,ρ1,σ1,Z1,π1,e,hρ,h1.pu hU hB hl' ho,h2.pu hl' ho,h3⟩⟩
 case hass=>rintro l' kk W⟨m,s1,Z1,π1,h1,h2,h3⟩hk;cases m with|zero=>cases h3|succ m=>
    have h3:d1n P Φ pins p0 p1 as bd ws inv al es a1 a2 σ c l k (d9 m BODY) (s1,rfI p0 l.length kk)=some r:=h3;let⟨_,_,_,hkl⟩:=c7b p0 l.length kk;let⟨hne,hidx⟩:=hkl hk;unfold d1n at h3;rw[if_neg (by rw[hne];simp)]at h3;let⟨x,hx,h3⟩:=c6b h3;let⟨ii,hii⟩:∃ii,rfI p0 l.length kk=ii:=⟨_,rfl⟩;rw[hii]at hx hidx h3;generalize rfX p0 l.length kk=xi at hidx;have hxj:=by have:=(b8d hx).2.2;rwa[hidx]at this
    obtain⟨ad,hav,hlt,hz,hA,hca⟩:=hvs _ x hxj;have hfr:(((rfP p0 p1).zip (rfA p0 xi (vs xi))).foldl (λt(p,v)=>t.setIfInBounds p v) (Frd n ρ ds).tmps)=(Frd n (b20 (b20 ρ p0 (.int .i64 (xi:Int))) (some p1) (vs xi)) []).tmps:=by
     have e2:=congrArg Act.tmps (c6r n (b20 ρ p0 (.int .i64 (xi:Int))) ds (some p1) (vs xi))
     cases p0 with|none=>
       have ez:(#[p1]:Array Tmp).zip #[vs xi]=#[(p1,vs xi)]:=by simp
       show(((#[p1]:Array Tmp).zip #[vs xi]).foldl _ _)=_;rw[ez];exact e2|some p=>
       have e1:=congrArg Act.tmps (c6r n ρ ds (some p) (.int .i64 (xi:Int)));simp [Act.put]at e1 e2;have ez:(#[p,p1]:Array Tmp).zip #[Value.int .i64 (xi:Int),vs xi]=#[(p,Value.int .i64 (xi:Int)),(p1,vs xi)]:=by simp
       show(((#[p,p1]:Array Tmp).zip #[Value.int .i64 (xi:Int),vs xi]).foldl _ _)=_;rw[ez];show((Frd n ρ ds).tmps.setIfInBounds p _).setIfInBounds p1 _=_;rw[e1];exact e2
    rw[hfr];have hr:=h1.recs hB1;have hr2:=hr.re hU;have hle:Cx.Le (⟨Z2,λ_=>undef,λ_=>False,w⟩:Cx) (cx (λb=>Z1 b\/g6t w.heap.size W b) π1 ((hdS ws inv al es σ s1).app p0 (.int .i64 ii) []) W):=⟨λb hb=>.inl (h1.zout b hb),h1.ext.mono λb hb hz=>hb.2 hz,λ_ h=>h.elim⟩;have hv1:=hr2.val (d:=p0) (a:=.int .i64 ii) (v:=.int .i64 (xi:Int)) (Ext.refl noG W) (by show Value.int .i64 _=Value.int .i64 _;rw[hidx]);have hv2:=hv1.val (d:=some p1) (Ext.refl noG W) (AVR.of1 (a1p.le hle hA));have hwp:=a6v hU hΦ hm as a1 _ _ r hcA h3 ((E.re Z2 w).re (λb=>Z1 b\/g6t w.heap.size W b) W) (λi=>hpin i) (λt=>t∉ws) ρ (λe ρ1 W1=>e=.normal/\KeepsQ w.heap.size W W1/\Ax kk (Frd n ρ1 []) W1) (λt ht=>(hws t ht).1) ⟨λσ' Z' π' ρ1 W1 hρ1 hR1 h'=>?_,λi σ' Z' π' ρ1 W1 hρ1 hR1 h'=>(by cases h'),λσ' Z' π' ρ1 W1 hρ1 hR1 h'=>(by cases h')⟩ _ _ _ W (λt ht=>?_) hv2;.refine e3m (wpIn_mono (hwp (some l') [] (.inr hna)) ?_);rintro e a' W1⟨ρ1,rfl,rfl,hkq,hax⟩;exact⟨hkq,hax⟩
    .refine⟨rfl,Rel.keeps hR1 λb hb=>.inr hb,m,ρ1,σ',Z',π',rfl,hρ1,Rel.un hr hR1,h2.le (λb hb=>hR1.zout b (.inl hb)) (hR1.ext.mono λb hb hz=>hb.2 (.inl hz)),by rw[hii];omega⟩
    .let⟨_,_,n0,n1⟩:=hws t ht;rw[c9j,if_neg (by simpa usingλe=>n1 e.symm),c9j,if_neg n0]
 case hbody=>
  rintro l' kk a' W⟨m,ρ1,σ1,Z1,π1,rfl,hρ1,h1,h2,h3⟩hk;have hr:=h1.recs hB1;have hr2:=hr.re hU;have hwp:=a6v hU hΦ hm bd a2 _ _ r hcB h3 ((E.re Z2 w).re (λb=>Z1 b\/g6t w.heap.size W b) W) (λi=>hpin i) (λt=>t∉ws) ρ (λe ρ2 W2=>g9r w.heap.size (I (kk+1)) (Ix (kk+1)) W e (Frd n ρ []) W2) (λt ht=>(hws t ht).2.1) ⟨λσ' Z' π' ρ2 W2 hρ2 hR2 h'=>?_,λi σ' Z' π' ρ2 W2 hρ2 hR2 h'=>?_,λσ' Z' π' ρ2 W2 hρ2 hR2 h'=>?_⟩ _ _ _ W hρ1 hr2;.refine e3m (wpIn_mono (hwp (some l') [] (.inr hnb)) ?_);rintro e a' W1⟨ρ2,rfl,hq⟩;cases e<;>exact hq
  .let⟨s',hs',h'⟩:=c6b h';let⟨Z4,π4,hR4',hp4⟩:=back h2 hρ2 (λb hb=>hR2.zout b (.inl hb)) (hR2.ext.mono λb hb hz=>hb.2 (.inl hz)) (Rel.un hr hR2) hs';refine⟨Rel.keeps hR2 λb hb=>.inr hb,m,s',Z4,π4,hR4',hp4,?_⟩;rw[<-(c7b p0 l.length kk).2.1];omega
  .let⟨s',hs',h'⟩:=c6b h';let⟨Z4,π4,hR4',hp4⟩:=back h2 hρ2 (λb hb=>hR2.zout b (.inl hb)) (hR2.ext.mono λb hb hz=>hb.2 (.inl hz)) (Rel.un hr hR2) hs';exact⟨Rel.keeps hR2 λb hb=>.inr hb,s',Z4,π4,hR4',.inr ⟨i,rfl,h'⟩⟩
  .let⟨s',hs',h'⟩:=c6b h';let⟨Z4,π4,hR4',hp4⟩:=back h2 hρ2 (λb hb=>hR2.zout b (.inl hb)) (hR2.ext.mono λb hb hz=>hb.2 (.inl hz)) (Rel.un hr hR2) hs';exact⟨Rel.keeps hR2 λb hb=>.inr hb,s',Z4,π4,hR4',.inl ⟨rfl,h'⟩⟩
 case hdone=>rintro D W hD⟨m,s1,Z1,π1,h1,h2,h3⟩hWD;cases m with|zero=>cases h3|succ m=>
    have h3:d1n P Φ pins p0 p1 as bd ws inv al es a1 a2 σ c l k (d9 m BODY) (s1,rfI p0 l.length l.length)=some r:=h3;unfold d1n at h3;rw[if_pos (c7b p0 l.length 0).2.2.1]at h3;have hRE:=Rel.un hR4 h1;have hfz:=hRE.fzN (λb=>b=D) λb hb=>by subst hb;exact⟨(qN.1 hWD).1,.inr (.inr (Nat.le_trans hR.ext.size hD)),λid hMB=>by have:=e1y hRE hMB hWD;cases this⟩
    have hZ:∀b,Z b->Z1 b\/b=D:=λb hb=>.inl (h1.zout b (hz2 b hb));have hEx:=h1.ext.mono λb hb hz=>hb.2 (hz2 b hz);exact⟨ρ,e94 D::ds,rfl,hQn _ _ _ W D hfz hZ hEx hD (.inr rfl) hWD h3⟩
 case hstop=>
  rintro D kk cd W hD hk⟨s1,Z1,π1,h1,h3⟩hWD;have hRE:=Rel.un hR4 h1;have hfz:=hRE.fzN (λb=>b=D) λb hb=>by subst hb;exact⟨(qN.1 hWD).1,.inr (.inr (Nat.le_trans hR.ext.size hD)),λid hMB=>by have:=e1y hRE hMB hWD;cases this⟩
  have hZ:∀b,Z b->Z1 b\/b=D:=λb hb=>.inl (h1.zout b (hz2 b hb));have hEx:=h1.ext.mono λb hb hz=>hb.2 (hz2 b hz);rcases h3 with⟨rfl,h3⟩|⟨id,rfl,h3⟩;.exact wpIn_ret ⟨ρ,e94 D::ds,rfl,hQr _ _ _ W D hfz hZ hEx hD (.inr rfl) hWD h3⟩
  .exact wpIn_exit ⟨ρ,e94 D::ds,rfl,hQe id _ _ _ W D hfz hZ hEx hD (.inr rfl) hWD h3⟩
end
section
variable {U:Uni} {P:Program} {Φ:Phi U} {n:Nat}
def Dn(E:Env)(Z:Nat->Prop)(w:World)(ds:O Deferred):Prop:=∃Ds:O Nat,ds=Ds.map e94/\Ds.Nodup/\∀D∈Ds,Z D/\E.w0.heap.size<=D/\w.heap[D]?=some (.deferred (some []))
def Dn.le{E:Env}{Z Z':Nat->Prop}{w w':World}{ds:O Deferred}(h:Dn E Z w ds)(hz:∀b,Z b->Z' b)(hE:Ext (λb=>¬Z b) w w'):Dn E Z' w' ds:=by let⟨Ds,e,hn,hD⟩:=h;exact⟨Ds,e,hn,λD hm=>by let⟨h1,h2,h3⟩:=hD D hm;exact⟨hz D h1,h2,(hE.block D (qN.1 h3).1 λh=>h h1).trans h3⟩⟩
def Dn.cons{E:Env}{Z:Nat->Prop}{w:World}{ds:O Deferred}(h:Dn E Z w ds){D:Nat}(hz:Z D)(hB:E.w0.heap.size<=D)(hw:w.heap[D]?=some (.deferred (some [])))(hlt:∀D'∈ds,D'≠e94 D):Dn E Z w (e94 D::ds):=by
 obtain⟨Ds,rfl,hn,hD⟩:=h;refine⟨D::Ds,rfl,List.nodup_cons.2 ⟨λhm=>hlt _ (List.mem_map.2 ⟨D,hm,rfl⟩) rfl,hn⟩,λD' hm=>?_⟩;rcases qO.1 hm with rfl|hm;.grind
 .exact hD D' hm
structure KOKD{R:Type}(E:Env)(k:Kont U R)(r:R)(Q:Exit->(Nat->A5)->O Deferred->World->Prop):Prop where
 norm:∀σ Z π ρ ds w,Rel E Z π σ ρ w->Dn E Z w ds->k.norm σ=some r->Q .normal ρ ds w
 exit:∀i σ Z π ρ ds w,Rel E Z π σ ρ w->Dn E Z w ds->k.exit i σ=some r->Q (.exit i) ρ ds w
 ret:∀σ Z π ρ ds w,Rel E Z π σ ρ w->Dn E Z w ds->k.ret σ=some r->Q .ret ρ ds w
def g4w{R:Type}(bk:FuncId->A3 (TypeId×U.C×Bool))(up:Bool)(σ:U.St)(t:Tmp)(K:(c:U.C)->O (U.T c)->U.St->A3 R):A3 R:=match σ.slot t with
 |.clo g [.ref i]=>match bk g,σ.mem i with
   |some (tS,c,u),.box t' b=>match Nat.beq t' tS&&(u==up),b with|true,.list _ l=>(match b8i c l with|some l=>K c l (σ.app none .unk [(i,.dead)])|none=>none)|true,.nils=>K c [] (σ.app none .unk [(i,.dead)])|_,_=>none
   |_,_=>none
 |.vl g t' _ l=>match bk g with|some (tS,c,u)=>(match Nat.beq t' tS&&(u==up),b8i c l with|true,some l=>K c l σ|_,_=>none)|none=>none
 |_=>none
def wsR(p0:A3 Tmp)(p1:Tmp)(as bd:Code):O Nat:=(match p0 with|some p=>p::p1::(b5k as++b5k bd)|none=>p1::(b5k as++b5k bd))
def psO:O Tmp->A3 (A3 Tmp×Tmp)|[p0,p1]=>some (some p0,p1)|[p1]=>some (none,p1)|_=>none
def g0i{R:Type}(P:Program)(Φ:Phi U)(bk:FuncId->A3 (TypeId×U.C×Bool))(pins:O Nat):Code->Ann U.C->U.St->Kont U R->A3 R
 |.seq a b,an,σ,k=>match d0p (.seq a b)with|true=>den P Φ pins (.seq a b) an σ k|false=>g0i P Φ bk pins a an.fst σ ⟨λσ=>g0i P Φ bk pins b an.snd σ k,k.exit,k.ret⟩
 |.block id a,an,σ,k=>match d0p a with|true=>den P Φ pins (.block id a) an σ k|false=>g0i P Φ bk pins a an σ ⟨k.norm,λi σ=>match Nat.beq i id with|true=>k.norm σ|false=>k.exit i σ,k.ret⟩
 |.rangeFunc it ps as bd,an,σ,k=>match it,psO ps.toList,an with
   |.tmp t,some (p0,p1),.l inv al es an'=>match f1m inv (wsR p0 p1 as bd)with|true=>g4w bk p0.isNone σ t λc l σ1=>g75 P Φ pins p0 p1 as bd (wsR p0 p1 as bd) inv al es an'.fst an'.snd σ1 c l k|false=>none
   |_,_,_=>none
 |c,an,σ,k=>match d0p c with|true=>den P Φ pins c an σ k|false=>none
def f3a(n:Nat):Code->Bool
 |.seq a b=>match d0p (.seq a b)with|true=>a3z n (.seq a b)|false=>f3a n a&&f3a n b
 |.block id a=>match d0p a with|true=>a3z n (.block id a)|false=>f3a n a
 |.rangeFunc it ps as bd=>(match it with|.tmp t=>decide (t<n)|_=>false)&&(a3z n as&&a3z n bd&&(d0p as&&d0p bd))|c=>a3z n c
variable {E:Env} {Z:Nat -> Prop} {π:Nat -> A5} {σ:U.St} {ρ:Nat -> A5} {w:World}
def c2h(σ:U.St)(i id:Nat):(σ.app none .unk [(i,.dead)]).mem id=if i=id then .dead else σ.mem id:=by
 unfold St.app St.put St.mem;simp [cons_append,nil_append];have e:lk id ((i,(MC.dead:U.MC))::σ.me)=bif Nat.beq i id then some .dead else lk id σ.me:=rfl;rw[e];by_cases h:i=id;.simp_all
 .rw[if_neg h,show Nat.beq i id=false from by cases hb:Nat.beq i id with|true=>simp_all|false=>rfl];rfl
def Rel.kill(h:Rel E Z π σ ρ w){i:Nat}(hi:σ.mem i≠.never):Rel E (λb=>Z b\/MB (σ.mem i) (π i) b) π (σ.app none .unk [(i,.dead)]) ρ w:=by
 have hcx:cx Z π (σ.app none .unk [(i,.dead)]) w=cx Z π σ w:=by unfold cx;congr 1;funext id;unfold b7a;rw[c2h];grind
 have hK:Rel E Z π (σ.app none .unk [(i,.dead)]) ρ w:=by
  refine⟨λt=>by rw[hcx];exact h.slot t,λid=>?_,λid b hb=>?_,λid id' b hne h1 h2=>?_,h.zlt,h.zin,h.zout,h.ext,λid hp=>?_,h.tab⟩
  .rw[hcx,c2h];split;.exact trivial
   .exact h.mem id
  .rw[c2h]at hb;split at hb;.exact hb.elim
   .exact h.own id b hb
  .rw[c2h]at h1 h2;split at h1;.exact h1.elim
   .split at h2;.exact h2.elim
    .exact h.dist id id' b hne h1 h2
  .let⟨h1,h2⟩:=h.pin id hp;refine⟨?_,h2⟩;unfold b7a;rw[c2h];split;.simp_all
   .exact h1
 refine hK.fzN _ λb hb=>?_;let⟨h1,h2,h3⟩:=h.own i b hb;refine⟨h2,.inr h3,λid hid=>?_⟩;rw[c2h]at hid;split at hid;.exact hid.elim
 .rename_i hne;exact h.dist i id b hne hb hid
def h3s(K:(Nat->A5)->O Deferred->World->Prop)(Q:Exit->(Nat->A5)->O Deferred->World->Prop):Exit->(Nat->A5)->O Deferred->World->Prop|.normal,ρ,ds,w=>K ρ ds w|e,ρ,ds,w=>Q e ρ ds w
def g0k(id:Nat)(Q:Exit->(Nat->A5)->O Deferred->World->Prop):Exit->(Nat->A5)->O Deferred->World->Prop|.exit id',ρ,ds,w=>if id'=id then Q .normal ρ ds w else Q (.exit id') ρ ds w|e,ρ,ds,w=>Q e ρ ds w
def WPD(P:Program)(n:Nat)(c:Code)(Q:Exit->(Nat->A5)->O Deferred->World->Prop)(ρ:Nat->A5)(ds:O Deferred)(w:World):Prop:=c.wpIn (FR none) 9 P (λe a w'=>∃ρ' ds',a=Frd n ρ' ds'/\Q e ρ' ds' w') (Frd n ρ ds) w
def c8j(hU:UOK U)(hΦ:OKΦ P Φ)(hm:P.follows .mixedOrders=true){pins:O Nat}{R:Type}{c:Code}{an:Ann U.C}{k:Kont U R}{r:R}(hc:a3z n c=true)(h:den P Φ pins c an σ k=some r)(hpin:∀i,E.pin i↔i∈pins){Q:Exit->(Nat->A5)->O Deferred->World->Prop}(hk:KOKD E k r Q)(hR:Rel E Z π σ ρ w){ds:O Deferred}(hD:Dn E Z w ds):WPD P n c Q ρ ds w:=by have up:∀{σ':U.St}{Z' π' ρ' w'},Rel (E.re Z w) Z' π' σ' ρ' w'->Rel E Z' π' σ' ρ' w'/\Dn E Z' w' ds:=λh=>⟨Rel.un hR h,hD.le (λb hb=>h.zout b hb) (h.ext.mono λb hb hz=>hb.2 hz)⟩;have hwp:=a6v hU hΦ hm c an σ k r hc h (E.re Z w) (λi=>hpin i) (λ_=>False) ρ (λe ρ' w'=>Q e ρ' ds w') (λ_ h=>h.elim) ⟨λσ' Z' π' ρ' w' _ h1 h2=>hk.norm σ' Z' π' ρ' ds w' (up h1).1 (up h1).2 h2,λi σ' Z' π' ρ' w' _ h1 h2=>hk.exit i σ' Z' π' ρ' ds w' (up h1).1 (up h1).2 h2,λσ' Z' π' ρ' w' _ h1 h2=>hk.ret σ' Z' π' ρ' ds w' (up h1).1 (up h1).2 h2⟩ Z π ρ w (λ_ h=>h.elim) (hR.re hU);exact wpIn_mono (hwp none ds (.inl rfl)) λe a w'⟨ρ',ha,hq⟩=>⟨ρ',ds,ha,hq⟩
def BKS(P:Program)(bk:FuncId->A3 (TypeId×U.C×Bool)):Prop:=∀g tS c up,bk g=some (tS,c,up)->∃tE,BackOK P up g tS tE (U.n c)/\(∀l:O (U.T c),b33 P tS (.list c l:U.AV)=true)/\∀x:U.T c,b33 P tE (inj c x)=true
def e4f{R:Type}{bk:FuncId->A3 (TypeId×U.C×Bool)}{up:Bool}{t:Tmp}{K:(c:U.C)->O (U.T c)->U.St->A3 R}{r:R}(h:g4w bk up σ t K=some r)(hR:Rel E Z π σ ρ w):∃g tS c l Bs sv σ1 Z1,bk g=some (tS,c,up)/\K c l σ1=some r/\ρ t=.func (.func g) #[] #[.pointer (some ⟨Bs,0,none⟩)]/\Mb w Bs tS [sv]/\Z1 Bs/\k9 (Rp c) (λb=>¬Z1 b) w sv l/\Rel E Z1 π σ1 ρ w/\∀b,Z b->Z1 b:=by
 unfold g4w at h;split at h;.rename_i g i hs;have hsl:=hR.slot t;rw[hs]at hsl;let⟨us,hv,hall⟩:=hsl;match us,hall with
  |[u1],hall=>
    have h1:=hall.1;have hu1:u1=π i:=h1.2.1;split at h
    .rename_i tS c u0 t' b hbk hmi;have hm:=hR.mem i;rw[hmi]at hm;let⟨Bs,uu,hpi,hM,hA⟩:=hm;have hne:σ.mem i≠.never:=by grind
     have hk:=hR.kill hne;have hzB:MB (σ.mem i) (π i) Bs:=by rw[hmi,hpi];rfl
     have fin:∀(l:O (U.T c)),(Nat.beq t' tS&&(u0==up))=true->K c l (σ.app none .unk [(i,.dead)])=some r->k9 (Rp c) (λb=>¬Z b) w uu l->∃g tS c l Bs sv σ1 Z1,bk g=some (tS,c,up)/\K c l σ1=some r/\ρ t=.func (.func g) #[] #[.pointer (some ⟨Bs,0,none⟩)]/\Mb w Bs tS [sv]/\Z1 Bs/\k9 (Rp c) (λb=>¬Z1 b) w sv l/\Rel E Z1 π σ1 ρ w/\∀b,Z b->Z1 b:=by intro l ht hK hl;simp only[qB,beq_iff_eq]at ht;have hup:=ht.2;have ht:=qC ht.1;subst ht;subst hup;refine⟨g,t',c,l,Bs,uu,_,_,hbk,hK,by grind,by rw[<-b1q hl];exact hM,.inr hzB,hl.weaken λb _ hb hz=>hb (.inl hz),hk,λb hb=>.inl hb⟩
     split at h
     .rename_i ht;split at h;.rename_i l2 hcl;obtain⟨he,rfl⟩:=a3i (G:=λb=>¬Z b) (w:=w) hcl;subst he;exact fin _ ht h hA
      .cases h
     .rename_i ht;exact fin [] ht h (by rw[show uu=.slice none 0 0from hA];exact k9.nil _ _ _)
     .cases h
    grind
 .rename_i g t' c0 l0 hs;have hsl:=hR.slot t;rw[hs]at hsl;let⟨bb,sv,hv,⟨hlt,hg⟩,hM,hS⟩:=hsl;have hzB:=Classical.byContradiction λhh=>hg hh;split at h;case h_2=>grind
  rename_i tS c u0 hbk;split at h;case h_2=>grind
  rename_i l ht hcl;simp only[qB,beq_iff_eq]at ht;have hup:=ht.2;have ht:=qC ht.1;subst ht;subst hup;obtain⟨he,rfl⟩:=a3i (G:=λb=>¬Z b) (w:=w) hcl;subst he;exact⟨g,t',_,_,bb,sv,σ,Z,hbk,h,hv,hM,hzB,hS,hR,λ_ hb=>hb⟩
 simp_all
def f8s{ps:Array Tmp}{p0:A3 Tmp}{p1:Tmp}(h:psO ps.toList=some (p0,p1)):ps=rfP p0 p1:=by let⟨l⟩:=ps;match l,h with|[a,b],h=>cases h;rfl|[a],h=>cases h;rfl
def e5j(hU:UOK U)(hΦ:OKΦ P Φ)(hm:P.follows .mixedOrders=true){bk:FuncId->A3 (TypeId×U.C×Bool)}(hbk:BKS P bk){pins:O Nat}{R:Type}:∀(c:Code)(an:Ann U.C)(σ:U.St)(k:Kont U R)(r:R),f3a n c=true->g0i P Φ bk pins c an σ k=some r->∀(E:Env),(∀i,E.pin i↔i∈pins)->∀Q,KOKD E k r Q->∀Z π ρ ds w,Rel E Z π σ ρ w->Dn E Z w ds->WPD P n c Q ρ ds w:=by
 intro c;have plain:∀(c:Code)(an:Ann U.C)(σ:U.St)(k:Kont U R)(r:R),a3z n c=true->(match d0p c with|true=>den P Φ pins c an σ k|false=>none)=some r->∀(E:Env),(∀i,E.pin i↔i∈pins)->∀Q,KOKD E k r Q->∀Z π ρ ds w,Rel E Z π σ ρ w->Dn E Z w ds->WPD P n c Q ρ ds w:=by
  intro c an σ k r hc h E hpin Q hk Z π ρ ds w hR hD;split at h;.exact c8j hU hΦ hm hc h hpin hk hR hD
  simp_all
 induction c with
 |seq a b iha ihb=>intro an σ k r hc h E hpin Q hk Z π ρ ds w hR hD;simp [g0i]at h;simp [f3a]at hc;cases hn:d0p (.seq a b)with|true=>rw[hn]at h hc;exact c8j hU hΦ hm hc h hpin hk hR hD|false=>rw[hn]at h hc;simp [qB]at hc;refine wpIn_seq (wpIn_mono (iha an.fst σ _ r hc.1 h E hpin (h3s (WPD P n b Q) Q) ⟨λσ' Z' π' ρ' ds' w' h1 h2 h3=>ihb an.snd σ' k r hc.2 h3 E hpin Q hk Z' π' ρ' ds' w' h1 h2,λi σ' Z' π' ρ' ds' w' h1 h2 h3=>hk.exit i σ' Z' π' ρ' ds' w' h1 h2 h3,λσ' Z' π' ρ' ds' w' h1 h2 h3=>hk.ret σ' Z' π' ρ' ds' w' h1 h2 h3⟩ Z π ρ ds w hR hD) ?_);rintro e a' w'⟨ρ',ds',rfl,hq⟩;cases e<;>first|exact hq|exact⟨ρ',ds',rfl,hq⟩
 |block id a iha=>intro an σ k r hc h E hpin Q hk Z π ρ ds w hR hD;simp [g0i]at h;simp [f3a]at hc;cases hn:d0p a with|true=>rw[hn]at h hc;exact c8j hU hΦ hm hc h hpin hk hR hD|false=>
     rw[hn]at h hc;refine wpIn_block (wpIn_mono (iha an σ _ r hc h E hpin (g0k id Q) ⟨λσ' Z' π' ρ' ds' w' h1 h2 h3=>hk.norm σ' Z' π' ρ' ds' w' h1 h2 h3,λi σ' Z' π' ρ' ds' w' h1 h2 h3=>?_,λσ' Z' π' ρ' ds' w' h1 h2 h3=>hk.ret σ' Z' π' ρ' ds' w' h1 h2 h3⟩ Z π ρ ds w hR hD) ?_);.show(if i=id then Q .normal ρ' ds' w' else Q (.exit i) ρ' ds' w');have h3:(match Nat.beq i id with|true=>k.norm σ'|false=>k.exit i σ')=some r:=h3;cases hb:Nat.beq i id with|true=>rw[hb]at h3;rw[if_pos (qC hb)];exact hk.norm σ' Z' π' ρ' ds' w' h1 h2 h3|false=>rw[hb]at h3;rw[if_neg (Nat.ne_of_beq_eq_false hb)];exact hk.exit i σ' Z' π' ρ' ds' w' h1 h2 h3
     .rintro e a' w'⟨ρ',ds',rfl,hq⟩;cases e<;>first
       |exact⟨ρ',ds',rfl,hq⟩
       | (rename_i id';simp [g0k,Exit.inBlock]at hq⊢;by_cases hid:id'=id;.simp [hid,if_true]at hq⊢;exact⟨ρ',ds',rfl,hq⟩
          .simp [hid,if_false]at hq⊢;exact⟨ρ',ds',rfl,hq⟩)
 |rangeFunc it ps as bd _ _=>
   intro an σ k r hc h E hpin Q hk Z π ρ ds w hR hD;simp [g0i]at h;split at h
   .rename_i t p0 p1 inv al es an' hps;split at h
    .rename_i hap;let⟨g,tS,c,l,Bs,sv,σ1,Z1,hg,hden,hit,hbox,hBs,hl,hR1,hZ1⟩:=e4f h hR;let⟨tE,hB,hfS,hfE⟩:=hbk g tS c _ hg;simp [f3a,qB,decide_eq_true_eq]at hc;have hps':=f8s hps;subst hps';have hD1:=hD.le hZ1 (Ext.refl _ _);have dsl:∀(D:Nat),w.heap.size<=D->∀D'∈ds,D'≠e94 D:=by
      obtain⟨Ds,rfl,_,hDs⟩:=hD;intro D hge D' hm e;obtain⟨D0,h0,rfl⟩:=List.mem_map.1 hm;have:=(qN.1 (hDs D0 h0).2.2).1;have e1:D0=D:=by injection e with e _;injection e
      omega
     refine f09 hU hΦ hm hB (hfS l) hfE hc.2.1.1 hc.2.1.2 hc.2.2.1 hc.2.2.2 (λt ht=>?_) (λt ht=>c9h hap ht) hc.1 hpin hR1 hit hbox hBs hl hden ?_ ?_ ?_;.unfold wsR at ht;cases p0 with|none=>simp [qO,qK,not_or]at ht;exact⟨ht.2.1,ht.2.2,(λe=>by cases e),ht.1⟩|some p=>simp [qO,qK,not_or]at ht;exact⟨ht.2.2.1,ht.2.2.2,(λe=>ht.1 (qH e).symm),ht.2.1⟩
     .intro σ' Z' π' W D h1 hz hE hge hzD hWD hk';exact hk.norm σ' Z' π' ρ _ W h1 ((hD1.le hz hE).cons hzD (Nat.le_trans hR.ext.size hge) hWD (dsl D hge)) hk'
     .intro id σ' Z' π' W D h1 hz hE hge hzD hWD hk';exact hk.exit id σ' Z' π' ρ _ W h1 ((hD1.le hz hE).cons hzD (Nat.le_trans hR.ext.size hge) hWD (dsl D hge)) hk'
     .intro σ' Z' π' W D h1 hz hE hge hzD hWD hk';exact hk.ret σ' Z' π' ρ _ W h1 ((hD1.le hz hE).cons hzD (Nat.le_trans hR.ext.size hge) hWD (dsl D hge)) hk'
    .cases h
   .cases h|skip=>exactλan σ k r hc h=>plain _ an σ k r hc h|region id ops draw=>exactλan σ k r hc h=>plain _ an σ k r hc h|cond c a b _ _=>exactλan σ k r hc h=>plain _ an σ k r hc h|loop a _=>exactλan σ k r hc h=>plain _ an σ k r hc h|exit id=>exactλan σ k r hc h=>plain _ an σ k r hc h|scope a _=>exactλan σ k r hc h=>plain _ an σ k r hc h|label l=>exactλan σ k r hc h=>plain _ an σ k r hc h|goto l=>exactλan σ k r hc h=>plain _ an σ k r hc h|ret=>exactλan σ k r hc h=>plain _ an σ k r hc h|refuse s=>exactλan σ k r hc h=>plain _ an σ k r hc h
end
section
variable {C:Type} {T:C -> Type}
def gI(k:IntKind):AV C T->A3 Int
 |.int k' n=>match decEq k' k with|.isTrue _=>some n|.isFalse _=>none
 |_=>none
def gB:AV C T->A3 Bool|.bool b=>some b|_=>none
def gS:AV C T->A3 A4|.str s=>some s|_=>none
def gV(dec:DecidableEq C)(c:C):AV C T->A3 (T c)
 |.val c' x=>match dec c' c with|.isTrue h=>some (h▸x)|.isFalse _=>none
 |_=>none
def gP(dec:DecidableEq C)(c:C):AV C T->A3 (T c)
 |.rp (.val c' x)=>match dec c' c with|.isTrue h=>some (h▸x)|.isFalse _=>none
 |_=>none
def gL(dec:DecidableEq C)(c:C):AV C T->A3 (O (T c))
 |.nils=>some []|.list c' l=>match dec c' c with|.isTrue h=>some (h▸l)|.isFalse _=>none
 |_=>none
end
def mkS{α β γ:Type}(g:α->A3 β)(k:β->O α->A3 γ):O α->A3 γ|[]=>none|a::r=>Option.bind (g a) λx=>k x r
def mkE{α γ:Type}(z:γ):O α->A3 γ|[]=>some z|_::_=>none
section
variable {U:Uni}
def h2d{α β:Type}{o:A3 α}{f:α->A3 β}{y:β}(h:Option.bind o f=some y):∃x,o=some x/\f x=some y:=by cases o with|none=>grind|some x=>simp_all
def h0y{α β γ:Type}{g:α->A3 β}{k:β->O α->A3 γ}{as:O α}{y:γ}(h:mkS g k as=some y):∃a r x,as=a::r/\g a=some x/\k x r=some y:=by cases as with|nil=>cases h|cons a r=>let⟨x,hx,h⟩:=h2d h;grind
def h00{α γ:Type}{z y:γ}{as:O α}(h:mkE z as=some y):as=[]/\z=y:=by cases as with|nil=>cases h;simp_all|cons a r=>cases h
def e7i{k:IntKind}{a:U.AV}{n:Int}(h:gI k a=some n):AEq a (.int k n):=by
 unfold gI at h;split at h
 .split at h;.rename_i hk _;cases h;subst hk;exact .inl rfl
  simp_all
 simp_all
def g76{a:U.AV}{b:Bool}(h:gB a=some b):AEq a (.bool b):=by
 unfold gB at h;split at h;.cases h;exact .inl rfl
 simp_all
def h0c{a:U.AV}{b:A4}(h:gS a=some b):AEq a (.str b):=by
 unfold gS at h;split at h;.cases h;exact .inl rfl
 simp_all
def g88{dec:DecidableEq U.C}{c:U.C}{a:U.AV}{x:U.T c}(h:gV dec c a=some x):AEq a (.val c x):=by
 unfold gV at h;split at h
 .split at h;.rename_i hk _;cases h;subst hk;exact .inl rfl
  simp_all
 simp_all
def h4a{dec:DecidableEq U.C}{c:U.C}{a:U.AV}{x:U.T c}(h:gP dec c a=some x):AEq a (.rp (.val c x)):=by
 unfold gP at h;split at h
 .split at h;.rename_i hk _;cases h;subst hk;exact .inl rfl
  simp_all
 simp_all
def g9w{dec:DecidableEq U.C}{c:U.C}{a:U.AV}{l:O (U.T c)}(h:gL dec c a=some l):AEq a (.list c l):=by
 unfold gL at h;split at h;.cases h;exact .inr ⟨rfl,c,rfl⟩
 .split at h;.rename_i hk _;cases h;subst hk;exact .inl rfl
  simp_all
 simp_all
end
structure Ar(n:Nat)(α:Type)where
 l:O α
 h:l.length=n
def f8f{α:Type}(l:O α)(i:Int)(y:α):(a8h l i y).length=l.length:=by unfold a8h;grind
def Ar.set{n:Nat}{α:Type}(x:Ar n α)(i:Int)(y:α):Ar n α:=⟨a8h x.l i y,by rw[f8f];exact x.h⟩
def Ar.gt{n:Nat}{α:Type}(z:α)(x:Ar n α)(i:Int):α:=match c7 x.l i with|some y=>y|none=>z
def Ar.gt_ok{n:Nat}{α:Type}{z:α}{x:Ar n α}{i:Int}{y:α}(h:c7 x.l i=some y):Ar.gt z x i=y:=by unfold Ar.gt;rw[h]
def arZ{α:Type}(n:Nat)(y:α):Ar n α:=⟨List.replicate n y,by simp⟩
def h1p{α β:Type}(g:α->A3 β):O α->A3 (O β)|[]=>some []|a::r=>match g a with|some x=>(match h1p g r with|some l=>some (x::l)|none=>none)|none=>none
def mkA{α β:Type}(g:α->A3 β)(n:Nat)(as:O α):A3 (Ar n β):=match h1p g as with|some l=>(match Nat.decEq l.length n with|.isTrue h=>some ⟨l,h⟩|.isFalse _=>none)|none=>none
section
variable {U:Uni}
def e7f{β:Type}{g:U.AV->A3 β}{f:β->U.AV}(hg:∀a x,g a=some x->AEq a (f x)):∀{as:O U.AV}{l:O β},h1p g as=some l->y7 (AEq (U:=U)) as (l.map f)
 |[],l,h=>by cases h;trivial|a::as,l,h=>by
   simp [h1p]at h;split at h
   .rename_i x hx;split at h;.rename_i l' hl;cases h;exact⟨hg _ _ hx,e7f hg hl⟩
    simp_all
   simp_all
def c6w{β:Type}{g:U.AV->A3 β}{f:β->U.AV}(hg:∀a x,g a=some x->AEq a (f x)){n:Nat}{as:O U.AV}{y:Ar n β}(h:mkA g n as=some y):y7 (AEq (U:=U)) as (y.l.map f):=by
 unfold mkA at h;split at h
 .rename_i l hl;split at h;.cases h;exact e7f hg hl
  simp_all
 simp_all
def g3z{n:Nat}{α:Type}(x:Ar n α){f:α->U.AV}{o:A3 U.C}(h:∀y,a07 (f y)=o):(x.l.map f).map a07=List.replicate n o:=by obtain⟨l,hl⟩:=x;subst hl;rw[map_map];induction l with|nil=>rfl|cons a l ih=>grind
def f1p{n:Nat}{α:Type}(x:Ar n α){f:α->U.AV}{p:U.AV->Bool}(h:∀y,p (f y)=true):(x.l.map f).all p=true:=by simp_all
def a2m(hU:UOK U){P:Program}{Φ:Phi U}(hΦ:OKΦ P Φ)(hm:P.follows .mixedOrders=true){f:FuncId}{fn:Func}{fe:Fent U}(hf:P.funcs[f]?=some fn)(un:Ress U fe.s.rs×Outs U fe.s.ps->fe.B)(an:Ann U.C)(hb:fn.body=some (fn.body.getD .skip))(hc:(a3z fn.ntmps (fn.body.getD .skip)&&c1m fn.ntmps fn.results.toList&&(decide (npK fe.s.ps<=fn.ntmps)&&b4o fe.s.ps))=true)(hun:∀p,fe.wr (un p)=p)(hF:∀x,c5v P Φ fe.s un fn an x=fe.F x):Spec P f fe:=g4r hU hΦ hm un an hf hb hc hun λx b h=>(hF x).trans h
def h20(P:Program):O (Nat×Fent U)->Prop|[]=>True|q::r=>c9b P q.1 q.2/\h20 P r
def f5f:O (PK U.C)->O U.AV->Bool|.cl f _::ps,.clo f' _::as=>Nat.beq f f'&&f5f ps as|.cl _ _::_,_=>false|.bn f _::ps,.bnd f' _::as=>Nat.beq f f'&&f5f ps as|.bn _ _::_,_=>false|.km f _::ps,.clo f' _::as=>Nat.beq f f'&&f5f ps as|.km _ _::_,_=>false|.vl f _ _::ps,.clo f' _::as=>Nat.beq f f'&&f5f ps as|.vl f _ _::ps,.vl f' _ _ _::as=>Nat.beq f f'&&f5f ps as|.vl _ _ _::_,_=>false|_::ps,_::as=>f5f ps as|_,_=>true
def lkF(t:Nat)(as:O U.AV):O (Nat×Fent U)->A3 (Fent U)|[]=>none|(k,a)::r=>bif Nat.beq k t&&f5f a.s.ps as then some a else lkF t as r
def okl{P:Program}:∀{L:O (Nat×Fent U)},h20 P L->OKΦ P λf as=>lkF f as L|[],_,f,as,fe,h=>by cases h|(i,a)::r,hL,f,as,fe,h=>by have h:(bif Nat.beq i f&&f5f a.s.ps as then some a else lkF f as r)=some fe:=h;cases hb:Nat.beq i f&&f5f a.s.ps as with|true=>rw[hb]at h;simp only[qB]at hb;obtain rfl:=qC hb.1;obtain rfl:=qH h;exact hL.1|false=>rw[hb]at h;exact okl hL.2 f as fe h
def g7j(hU:UOK U){P:Program}(hm:P.follows .mixedOrders=true){f:FuncId}{fn:Func}{fe:Fent U}(L:O (Nat×Fent U))(hL:h20 P L)(hf:P.funcs[f]?=some fn)(un:Ress U fe.s.rs×Outs U fe.s.ps->fe.B)(an:Ann U.C)(hb:fn.body=some (fn.body.getD .skip))(hc:(a3z fn.ntmps (fn.body.getD .skip)&&c1m fn.ntmps fn.results.toList&&(decide (npK fe.s.ps<=fn.ntmps)&&b4o fe.s.ps))=true)(hun:∀p,fe.wr (un p)=p)(hF:∀x,c5v P (λf as=>lkF f as L) fe.s un fn an x=fe.F x):Spec P f fe:=a2m hU (okl hL) hm hf un an hb hc hun hF
end
end Go.SX
namespace Go.PL
open Go
def g6v(s:ByteArray)(c:Int):Int:=match(List.range s.size).find? λi=>s[i]! ==c.toNat.toUInt8 with|some i=>(i:Int)|none=>-1
def f5t{P:Program}{w:World}(s:ByteArray)(c:Int):(Extern.BytealgIndexByte.indexByte #[.string s,.int .u8 c]).run P w=.ok (.int .i64 (g6v s c)) w:=by change Sem.run P (do let b<-Extern.Bytes.bytesOf (.string s)let c'<-Extern.Bytes.asByte (.int .u8 c)match(List.range b.size).find? λi=>b[i]! ==c' with|some i=>pure (goInt i)|none=>pure (goInt (-1))) w=_;simp only[Extern.Bytes.bytesOf,Extern.Bytes.asByte,Sem.run_bind,Sem.run_pure,Result.andThen];unfold g6v;split<;>simp_all[goInt,Sem.run_pure]
end Go.PL
namespace Go.SX
open Go Go.PL
section
variable {P:Program} {U:Uni}
def h0w{ps:O (PK U.C)}{c:U.C}{Z G:Nat->Prop}{w:World}{us:O A5}{o:Outs U ps}{x:U.T c}{u:A5}(hx:a1p (cz Z w) (inj c x) u)(ho:OR (czO Z ps us w) ps o us)(hi:ioB ps us=[]):Post (⟨ps,[.v c]⟩:Sig U) Z G w us ((x,()),o) u w:=⟨⟨Z,[u],us,rfl,λ_ h=>h,λ_ h=>.inl h,Ext.refl _ _,rfl,λ_ _ _ _=>rfl,⟨hx,trivial⟩,ho,(λv hv=>by have hv:v∈([]:O A5)++ioB ps us:=hv;simp_all),(λi j v v' b _ hv=>by have hv:(([]:O A5)++ioB ps us)[i]?=some v:=hv;simp_all)⟩⟩
def f6g{f:FuncId}{fn:Func}(hf:P.funcs[f]?=some fn)(h1:(fn.name== "runtime.NumGoroutine")=false)(h2:fn.body.isNone=true)(h3:Extern.findNext fn=none)(h4:Extern.find fn=some Extern.BytealgIndexByte.indexByte){a b c:U.C}(fa:U.T a->A4)(fb:U.T b->Int)(fc:Int->U.T c)(ha:∀x,(inj a x:U.AV)=.str (fa x))(hb:∀x,(inj b x:U.AV)=.int .u8 (fb x))(hc:∀n,(inj c (fc n):U.AV)=.int .i64 n):d6d P f (⟨⟨[.v a,.v b],[.v c]⟩,Int,λx=>some (g6v (fa x.1) (fb x.2.1)),λn=>((fc n,()),()),none⟩:Fent U):=by intro xs r hr Z G w us hl hR;obtain rfl:=qH hr;match us,hl with|[u1,u2],_=>have s0:AVR _ (inj a xs.1) u1:=hR.slot 0;have s1:AVR _ (inj b xs.2.1) u2:=hR.slot 1;rw[ha]at s0;rw[hb]at s1;refine⟨.int .i64 (g6v (fa xs.1) (fb xs.2.1)),w,?_,h0w (by rw[hc];rfl) trivial rfl⟩;show(callFunc f #[u1,u2]).run P w=_;rw[s0,s1,run_callFunc_extern hf h1 h2 h3 h4,f5t];rfl
def j4v (hU:UOK U){f:FuncId}{fn:Func}(hf:P.funcs[f]? =some fn)(h1:(fn.name== "runtime.NumGoroutine")=false)(h2:fn.body.isNone=true)(h3:Extern.findNext fn=none)(h4:Extern.find fn=some Extern.BytealgCompare.compare)
  {a c:U.C} (h8:U.b8 a=true) (fc:Int -> U.T c) (hc: ∀n,(inj c (fc n):U.AV)= .int .i64 n):
  d6d P f (⟨⟨[.ls a,.ls a],[.v c]⟩,Int,fun x=>some (j96 (x.1.map (U.t8 a)) (x.2.1.map (U.t8 a))),fun n=>((fc n,()),()),none⟩:Fent U):=by
 intro xs r hr Z G w us hl hR
 obtain rfl:=qH hr
 match us,hl with
 | [u1,u2],_=>
   obtain ⟨G1,g1⟩:=d9z hU h8 (d2u (c:=a) (l:=xs.1) (hR.slot 0))
   obtain ⟨G2,g2⟩:=d9z hU h8 (d2u (c:=a) (l:=xs.2.1) (hR.slot 1))
   refine ⟨.int .i64 (j96 (xs.1.map (U.t8 a)) (xs.2.1.map (U.t8 a))),w,?_,h0w (by rw [hc];rfl) trivial rfl⟩
   show (callFunc f #[u1,u2]).run P w=_
   rw [run_callFunc_extern hf h1 h2 h3 h4]
   have hh:=j05 (P:=P) (w:=w) g1 g2
   rw [show (Extern.BytealgCompare.compare #[u1,u2]).run P w=_ from hh];rfl
end
end Go.SX
namespace Go.PL
def f0f{α:Type}[Inhabited α](lt:α->α->Bool)(l:O α):A3 (O α):=if l.length<=1then some l else if l.length<4611686018427387904then some (Go.Sort.pdq lt l.toArray 0 l.length (Lib.bitLen l.length) true true).toList else none
def g2t(x:Int):O Int->O Int|[]=>[x]|y::l=>if x<=y then x::y::l else y::g2t x l
def b89:O Int->O Int|[]=>[]|x::l=>g2t x (b89 l)
def c9o(x:Int):∀l,(g2t x l).Perm (x::l)
 |[]=>.refl _|y::l=>by
   unfold g2t;split;.exact .refl _
   .exact((c9o x l).cons y).trans (.swap x y l)
def a8p:∀l:O Int,(b89 l).Perm l|[]=>.refl _|x::l=>(c9o x _).trans ((a8p l).cons x)
def e98(x:Int):∀{l:O Int},l.Pairwise (.<=.)->(g2t x l).Pairwise (.<=.)
 |[],_=>by simp[g2t]|y::l,h=>by
   unfold g2t;let⟨h1,h2⟩:=List.pairwise_cons.1 h;split;.exact List.pairwise_cons.2 ⟨λz hz=>by rcases qO.1 hz with rfl|hz;omega;have:=h1 z hz;omega,h⟩
   .refine List.pairwise_cons.2 ⟨λz hz=>?_,e98 x h2⟩;rcases qO.1 ((c9o x l).mem_iff.1 hz)with rfl|hz;.omega
    .exact h1 z hz
def e2r:∀l:O Int,(b89 l).Pairwise (.<=.)|[]=>.nil|x::l=>e98 x (e2r l)
def e37(l:O Int):l.mergeSort (λx y=>decide (x<=y))=b89 l:=by have h:=pairwise_mergeSort (le:=λx y=>decide (x<=y)) (by simp;omega) (by simp;omega) l;exact List.Perm.eq_of_pairwise (λa b _ _ h1 h2=>by omega) (h.imp λh=>by simpa using h) (e2r l) ((mergeSort_perm l _).trans (a8p l).symm)
def b8s(l:O Int):A3 (O Int):=if l.length<=1000000then some (b89 l)else none
def c4v(n:Int):Bool:=decide (-9223372036854775808<=n)&&decide (n<=9223372036854775807)
def c8c(l:O (Int×Int)):A3 (O Int):=if(l.all λq=>c4v q.1)=true/\l.length<=1000000then some (b89 (l.map (·.1)))else none
noncomputable def allP{α β:Type}(S:α->Prop)(f:α->A3 β):A3 β:=@dite _ (∃r,∀b,S b->f b=some r) (Classical.propDecidable _) (λh=>some (Classical.choose h)) λ_=>none
def e8s{α β:Type}{S:α->Prop}{f:α->A3 β}{r:β}(h:allP S f=some r){b:α}(hb:S b):f b=some r:=by
 unfold allP at h;split at h;.rename_i hx;have h1:=Classical.choose_spec hx b hb;rw[h1,qH h]
 .cases h
def g33{α β:Type}{S:α->Prop}{f:α->A3 β}{r:β}(hr:∀b,S b->f b=some r){b:α}(hb:S b):allP S f=some r:=by unfold allP;have hx:∃r,∀b,S b->f b=some r:=⟨r,hr⟩;rw[dif_pos hx];have h1:=Classical.choose_spec hx b hb;rw[hr b hb]at h1;exact h1.symm
def ixK{α:Type}:O ((Int×Int)×α)->(Int×Int)->Nat|[],_=>0|q::r,k=>if q.1=k then 0 else ixK r k+1
def c3v{α:Type}(L:O ((Int×Int)×α))(k:Int×Int)(z:α):O ((Int×Int)×α):=if ixK L k<L.length then L else L++[(k,z)]
def f7i{β:Type}(L:O ((Int×Int)×O β))(k:Int×Int)(x:β):O ((Int×Int)×O β):=match(c3v L k [])[ixK L k]?with|some q=>(c3v L k []).set (ixK L k) (k,q.2++[x])|none=>L
end Go.PL
namespace Go.SX
open Go Go.PL
def knS{P:Program}{U:Uni}{f:FuncId}{fe:Fent U}(hk:fe.kc=none)(h:Spec P f fe/\b44 P f):c9b P f fe:=by unfold c9b;rw[hk];exact .inl h
def knX{P:Program}{U:Uni}{f:FuncId}{fe:Fent U}(hk:fe.kc=none)(h:d6d P f fe):c9b P f fe:=by unfold c9b;rw[hk];exact .inr h
structure Kn(P:Program)(U:Uni)where
 f:Nat
 fe:Fent U
 ok:c9b P f fe
def Kn.e{P:Program}{U:Uni}(k:Kn P U):Nat×Fent U:=(k.f,k.fe)
def f8d{P:Program}{U:Uni}:∀ks:O (Kn P U),h20 P (ks.map Kn.e)|[]=>trivial|k::ks=>⟨k.ok,f8d ks⟩
def a14{P:Program}{f:Nat}{fn:Func}(hf:P.funcs[f]?=some fn)(hb:fn.body.isSome=true)(hn:(!fn.name== "runtime.NumGoroutine")=true):b44 P f:=by
 intro args w;have h1:(fn.name== "runtime.NumGoroutine")=false:=by simpa using hn
 have h2:fn.body.isNone=false:=by cases h:fn.body with|none=>rw[h]at hb;cases hb|some c=>rfl
 unfold callFunc;change Sem.run P (match P.funcs[f]?with|none=>_|some fn=>_) w=_;rw[hf];simp only[h1,h2];rfl
def c67(fn:Func){U:Uni}(s:Sig U):Bool:=(fn.body.isSome&&!fn.name== "runtime.NumGoroutine")&&(a3z fn.ntmps (fn.body.getD .skip)&&c1m fn.ntmps fn.results.toList&&(decide (npK s.ps<=fn.ntmps)&&b4o s.ps))
def d8{fn:Func}{U:Uni}{s:Sig U}(h:c67 fn s=true):fn.body=some (fn.body.getD .skip)/\(a3z fn.ntmps (fn.body.getD .skip)&&c1m fn.ntmps fn.results.toList&&(decide (npK s.ps<=fn.ntmps)&&b4o s.ps))=true:=by unfold c67 at h;rw[qB,qB]at h;refine⟨?_,h.2⟩;cases hb:fn.body with|none=>rw[hb]at h;exact absurd h.1.1 (by simp)|some c=>rfl
def d5o{fn:Func}{U:Uni}{s:Sig U}(h:c67 fn s=true):fn.body.isSome=true/\(!fn.name== "runtime.NumGoroutine")=true:=by unfold c67 at h;rw[qB,qB]at h;exact h.1
def kn{P:Program}{U:Uni}(hU:UOK U)(hm:P.follows .mixedOrders=true)(f:Nat)(fn:Func)(s:Sig U){B:Type}(F:Args U s.ps->A3 B)(wr:B->Ress U s.rs×Outs U s.ps)(un:Ress U s.rs×Outs U s.ps->B)(an:Ann U.C)(ks:O (Kn P U))(hf:P.funcs[f]?=some fn:=by kernel_rfl)(hc:c67 fn s=true:=by kernel_rfl)(hun:∀p,wr (un p)=p:=by intro _;rfl)(hF:∀x,c5v P (λg as=>lkF g as (ks.map Kn.e)) s un fn an x=F x:=by intro _;kernel_rfl):Kn P U:=⟨f,⟨s,B,F,wr,none⟩,knS rfl ⟨g7j hU hm (fe:=⟨s,B,F,wr,none⟩) (ks.map Kn.e) (f8d ks) hf un an (d8 hc).1 (d8 hc).2 hun hF,a14 hf (d5o hc).1 (d5o hc).2⟩⟩
abbrev cur1{α ω:Type}(f:α→ω)(x:α×Unit):ω:=f x.1
abbrev cur2{α β ω:Type}(f:α→β→ω)(x:α×β×Unit):ω:=f x.1 x.2.1
abbrev cur3{α β γ ω:Type}(f:α→β→γ→ω)(x:α×β×γ×Unit):ω:=f x.1 x.2.1 x.2.2.1
abbrev cur4{α β γ δ ω:Type}(f:α→β→γ→δ→ω)(x:α×β×γ×δ×Unit):ω:=f x.1 x.2.1 x.2.2.1 x.2.2.2.1
abbrev cur5{α β γ δ ε ω:Type}(f:α→β→γ→δ→ε→ω)(x:α×β×γ×δ×ε×Unit):ω:=f x.1 x.2.1 x.2.2.1 x.2.2.2.1 x.2.2.2.2.1
abbrev cur6{α β γ δ ε ζ ω:Type}(f:α→β→γ→δ→ε→ζ→ω)(x:α×β×γ×δ×ε×ζ×Unit):ω:=f x.1 x.2.1 x.2.2.1 x.2.2.2.1 x.2.2.2.2.1 x.2.2.2.2.2.1
abbrev w1{α:Type}(b:α):(α×Unit)×Unit:=((b,()),())
abbrev u1{α:Type}(p:(α×Unit)×Unit):α:=p.1.1
abbrev w2{α β:Type}(b:α×β):(α×β×Unit)×Unit:=((b.1,b.2,()),())
abbrev u2{α β:Type}(p:(α×β×Unit)×Unit):α×β:=(p.1.1,p.1.2.1)
abbrev w3{α β γ:Type}(b:α×β×γ):(α×β×γ×Unit)×Unit:=((b.1,b.2.1,b.2.2,()),())
abbrev u3{α β γ:Type}(p:(α×β×γ×Unit)×Unit):α×β×γ:=(p.1.1,p.1.2.1,p.1.2.2.1)
def sk{C:Type}:Nat->Ann C->Ann C|0,a=>a|n+1,a=>.s .n (sk n a)
end Go.SX
namespace Go.SX
open Go Go.PL Go.RowKit
section
variable {U:Uni} {P:Program} {Φ:Phi U} {n:Nat}
def d2f(hU:UOK U){E:Env}{Z:Nat->Prop}{π:Nat->A5}{σ:U.St}{ρ:Nat->A5}{fn:Func}{tmps:Array A5}{R:Ending->World->Prop}(fin:∀w,Rel E Z π σ ρ w->∃v,(results fn tmps).run P w=.ok v w/\R (.returned v) w):∀(Ds:O Nat)(w:World),Rel E Z π σ ρ w->Ds.Nodup->(∀D∈Ds,E.w0.heap.size<=D/\w.heap[D]?=some (.deferred (some [])))->LeavesInM Fence.wide 9 P fn tmps R (Ds.map e94) .returning w|[],w,hR,_,_=>fin w hR|D::Ds,w,hR,hn,hD=>by let⟨h1,h2⟩:=hD D qI;let⟨hn1,hn2⟩:=List.nodup_cons.1 hn;refine⟨by simp,.inl ⟨D,w.putObj D (.deferred none),rfl,run_takeDeferred h2,?_⟩⟩;refine d2f hU fin Ds _ (hR.pu hU h1 h2 rfl) hn2 λD' hm=>?_;let⟨h3,h4⟩:=hD D' (qJ _ hm);have hne:D'≠D:=λe=>hn1 (by rw[<-e];exact hm);exact⟨h3,(World.putObj_heap_other hne).trans h4⟩
def g4t(P:Program)(Φ:Phi U)(bk:FuncId->A3 (TypeId×U.C×Bool))(s:Sig U){B:Type}(un:Ress U s.rs×Outs U s.ps->B)(fn:Func)(an:Ann U.C)(x:Args U s.ps):A3 B:=match fn.body with|some c=>g0i P Φ bk (ioI 0 s.ps) c an (a02 0 s.ps x) ⟨λσ=>unK un (e61 P s fn.results.toList σ),λ_ _=>none,λσ=>unK un (e61 P s fn.results.toList σ)⟩|none=>none
def f6o(hU:UOK U)(hΦ:OKΦ P Φ)(hm:P.follows .mixedOrders=true){bk:FuncId->A3 (TypeId×U.C×Bool)}(hbk:BKS P bk){f:FuncId}{fn:Func}{c:Code}{fe:Fent U}(un:Ress U fe.s.rs×Outs U fe.s.ps->fe.B)(an:Ann U.C)(hf:P.funcs[f]?=some fn)(hb:fn.body=some c)(hc:(f3a fn.ntmps c&&c1m fn.ntmps fn.results.toList&&(decide (npK fe.s.ps<=fn.ntmps)&&b4o fe.s.ps))=true)(hun:∀p,fe.wr (un p)=p)(hF:∀x b,fe.F x=some b->g4t P Φ bk fe.s un fn an x=some b):Spec P f fe:=by
 intro xs b hr Z G w us hlen hR;simp [qB,decide_eq_true_eq]at hc;have hmi:=by have h9:=hc.2.2;unfold b4o at h9;simp [qB]at h9;exact h9.1
 have hd:=hF xs b hr;unfold g4t at hd;rw[hb]at hd;have hret:∀{σ:U.St},unK un (e61 P fe.s fn.results.toList σ)=some b->e61 P fe.s fn.results.toList σ=some (fe.wr b):=λ{σ}h=>by
  unfold unK at h;split at h;.rename_i p hp;cases h;rw[hp,hun]
  .cases h
 have hpin:=λi=>by have:=c8q fe.s.ps 0 i;simp [Nat.zero_le,true_and,Nat.sub_zero]at this;exact this.symm
 refine callsIn_wide.1 (callsIn_of_wp_marks (n:=9) hf hb trivial ?_ rfl);have hlt:(us.take (npK fe.s.ps)).length<=fn.ntmps:=by rw[length_take];exact Nat.le_trans (Nat.min_le_left _ _) hc.2.1
 rw[c9e (us.take (npK fe.s.ps)) hlt];have leave:∀{σ':U.St}{Z' π' ρ' ds' w'},Rel ⟨w,G,Z,c0f fe.s.ps,c7a us⟩ Z' π' σ' ρ' w'->Dn ⟨w,G,Z,c0f fe.s.ps,c7a us⟩ Z' w' ds'->unK un (e61 P fe.s fn.results.toList σ')=some b->LeavesInM Fence.wide 9 P fn (Frd fn.ntmps ρ' ds').tmps (λe w''=>∃u,e=.returned u/\Post fe.s Z G w us (fe.wr b) u w'') ds' .returning w':=by intro σ' Z' π' ρ' ds' w' h1 hD h3;obtain⟨Ds,rfl,hn,hDs⟩:=hD;exact d2f hU (λw2 h2=>by let⟨v,hv,hp⟩:=c2g hU hlen hmi h2 hc.1.2 (hret h3);exact⟨v,hv,v,rfl,hp⟩) Ds w' h1 hn λD hm=>⟨(hDs D hm).2.1,(hDs D hm).2.2⟩
 have hw:=e5j hU hΦ hm hbk c an _ _ b hc.1.1 hd ⟨w,G,Z,c0f fe.s.ps,c7a us⟩ hpin (λe ρ' ds' w'=>(e=.normal\/e=.ret)/\LeavesInM Fence.wide 9 P fn (Frd fn.ntmps ρ' ds').tmps (λe w''=>∃u,e=.returned u/\Post fe.s Z G w us (fe.wr b) u w'') ds' .returning w') ⟨λσ' Z' π' ρ' ds' w' h1 h2 h3=>⟨.inl rfl,leave h1 h2 h3⟩,λi σ' Z' π' ρ' ds' w' h1 h2 h3=>(by cases h3),λσ' Z' π' ρ' ds' w' h1 h2 h3=>⟨.inr rfl,leave h1 h2 h3⟩⟩ Z _ _ [] w hR ⟨[],rfl,nodup_nil,λD h=>by cases h⟩;refine wpIn_mono hw ?_;rintro e a w'⟨ρ',ds',rfl,he,hl⟩;rcases he with rfl|rfl<;>exact hl
end
def e9k(fn:Func){U:Uni}(s:Sig U):Bool:=(fn.body.isSome&&!fn.name== "runtime.NumGoroutine")&&(f3a fn.ntmps (fn.body.getD .skip)&&c1m fn.ntmps fn.results.toList&&(decide (npK s.ps<=fn.ntmps)&&b4o s.ps))
def d1o{fn:Func}{U:Uni}{s:Sig U}(h:e9k fn s=true):fn.body=some (fn.body.getD .skip)/\(f3a fn.ntmps (fn.body.getD .skip)&&c1m fn.ntmps fn.results.toList&&(decide (npK s.ps<=fn.ntmps)&&b4o s.ps))=true:=by unfold e9k at h;rw[qB,qB]at h;refine⟨?_,h.2⟩;cases hb:fn.body with|none=>rw[hb]at h;exact absurd h.1.1 (by simp)|some c=>rfl
def d2o{fn:Func}{U:Uni}{s:Sig U}(h:e9k fn s=true):fn.body.isSome=true/\(!fn.name== "runtime.NumGoroutine")=true:=by unfold e9k at h;rw[qB,qB]at h;exact h.1
def lkB{U:Uni}:O (Nat×TypeId×U.C×Bool)->FuncId->A3 (TypeId×U.C×Bool)|[],_=>none|(i,q)::l,g=>bif Nat.beq i g then some q else lkB l g
def h1j(P:Program){U:Uni}:O (Nat×TypeId×U.C×Bool)->Prop|[]=>True|(i,tS,c,up)::l=>(∃tE,BackOK P up i tS tE (U.n c)/\(∀l:O (U.T c),b33 P tS (.list c l:U.AV)=true)/\∀x:U.T c,b33 P tE (inj c x)=true)/\h1j P l
def g14{P:Program}{U:Uni}:∀{l:O (Nat×TypeId×U.C×Bool)},h1j P l->BKS P (lkB l)|[],_,g,tS,c,up,h=>by cases h|(i,t,c',u')::l,hl,g,tS,c,up,h=>by have h:(bif Nat.beq i g then some (t,c',u')else lkB l g)=some (tS,c,up):=h;cases hb:Nat.beq i g with|true=>rw[hb]at h;obtain rfl:=qC hb;cases h;exact hl.1|false=>rw[hb]at h;exact g14 hl.2 g tS c up h
def knR{P:Program}{U:Uni}(hU:UOK U)(hm:P.follows .mixedOrders=true)(l:O (Nat×TypeId×U.C×Bool))(hl:h1j P l)(f:Nat)(fn:Func)(s:Sig U){B:Type}(F:Args U s.ps->A3 B)(wr:B->Ress U s.rs×Outs U s.ps)(un:Ress U s.rs×Outs U s.ps->B)(an:Ann U.C)(ks:O (Kn P U))(hf:P.funcs[f]?=some fn:=by kernel_rfl)(hc:e9k fn s=true:=by kernel_rfl)(hun:∀p,wr (un p)=p:=by intro _;rfl)(hF:∀x,g4t P (λg as=>lkF g as (ks.map Kn.e)) (lkB l) s un fn an x=F x:=by intro _;kernel_rfl):Kn P U:=⟨f,⟨s,B,F,wr,none⟩,knS rfl ⟨f6o hU (okl (f8d ks)) hm (g14 hl) (fe:=⟨s,B,F,wr,none⟩) un an hf (d1o hc).1 (d1o hc).2 hun λx b h=>(hF x).trans h,a14 hf (d2o hc).1 (d2o hc).2⟩⟩
def g3q{P:Program}{n m:Nat}{r:A3 Nat}{ops:O Oper}(hT:Plan.okTmps ops n=true)(hS:Plan.okSel ops=true){Q:Exit->Act->World->Prop}{ρ:Nat->A5}{ds:O Deferred}{w w':World}{i:Nat}{rest:O Nat}{o:Oper}{v:A5}(ho:ops[i]?=some o)(hg:o.guard=none)(hy:(execOp (ev ρ) o).run P w=.ok (.value v) w')(hk:wpOpsIn (FR r) m P ops.toArray Q rest (Frd n (b20 ρ o.dst v) ds) w'):wpOpsIn (FR r) m P ops.toArray Q (i::rest) (Frd n ρ ds) w:=by
 rw[wpOpsIn_cons];unfold wpOpIn;simp [getElem?_toArray,ho];rw[if_pos (by simp[Region.wanted,hg])];refine a0k.wp (K:=λu w2=>u=v/\w2=w') ?_ ?_;.unfold a0k;rw[c0s hT hS ho ρ];simp_all
 .rintro u w2⟨rfl,rfl⟩;rw[c6r];omega
def f8w{P:Program}{t:TypeId}{u:A5}{w:World}(h:u.cells.toList=[u]):(Instr.box t u).run P w=.ok (.pointer (some ⟨w.heap.size,0,none⟩)) (w.alloc (.cells #[u] t)):=by have e:=Array.ext' (by omega);simp[Instr.box,newVar,newRow,e]
def bq0(tS tF:TypeId)(p1:String):O Oper:=[{dst:=some 1,op:=.box tS (.tmp 0),type:=0,pos:=p1,after:=#[],guard:=none},{dst:=some 2,op:=.assign (.const .nilFunc),type:=tF,pos:=p1,after:=#[],guard:=none}]
def bq1(tF tG:TypeId)(g:FuncId)(p2:String):O Oper:=[{dst:=some 3,op:=.makeFunc (.func g) #[] #[.tmp 1],type:=tG,pos:=p2,after:=#[],guard:=none},{dst:=some 2,op:=.assign (.tmp 3),type:=tF,pos:=p2,after:=#[{on:=0,ground:=.data},{on:=0,ground:=.phase}],guard:=none}]
def h0j(tS tF tG:TypeId)(g:FuncId)(p1 p2:String):Code:=.seq (.region 0 (bq0 tS tF p1).toArray false) (.seq (.region 1 (bq1 tF tG g p2).toArray false) .ret)
def c5j{P:Program}{f g:FuncId}{fn:Func}{tS tF tG:TypeId}{p1 p2:String}(hc:b44 P f)(hf:P.funcs[f]?=some fn)(hb:fn.body=some (h0j tS tF tG g p1 p2))(hn:fn.ntmps=4)(hres:fn.results=#[.tmp 2]):b9c P f g tS:=by refine⟨hc,λu hu w=>callsIn_wide.1 (callsIn_of_wp (n:=9) hf hb trivial ?_ rfl)⟩;have ha:=c9e (n:=4) [u] (by simp);rw[show({tmps:=#[u]++Array.replicate (fn.ntmps-(#[u]:Array A5).size) undef,defers:=[]}:Act)=Frd 4 (λt=>[u].getD t undef) []from by simp_all];refine wpIn_seq (wpIn_region ?_);refine g3q rfl rfl rfl rfl (h2i rfl (f8w hu)) ?_;refine a1q rfl rfl rfl rfl (b7t rfl) ?_;refine wpIn_seq (wpIn_region ?_);refine a1q rfl rfl rfl rfl (v:=.func (.func g) #[] #[.pointer (some ⟨w.heap.size,0,none⟩)]) (by simp[YV,execOp,Instr.makeFunc,ev,b20,upd]) ?_;refine a1q rfl rfl rfl rfl (b7t rfl) ?_;refine wpIn_ret ⟨rfl,_,by simp[results,hres,Frd,b20,upd];rfl,rfl,rfl⟩
def cl0(t:TypeId):O Oper:=[{dst:=some 2,op:=.assign (.const (.slice none 0 0)),type:=t,pos:= "slices.go:355",after:=#[],guard:=none}]
def cl1(t b:TypeId):O Oper:=[{dst:=some 3,op:=.move (.tmp 0),type:=t,pos:= "slices.go:357",after:=#[],guard:=none},{dst:=some 4,op:=.binOp .eql t (.tmp 3) (.const (.slice none 0 0)) t,type:=b,pos:= "slices.go:357",after:=#[{on:=0,ground:=.data}],guard:=none}]
def cl2(t:TypeId):O Oper:=[{dst:=some 2,op:=.assign (.const (.slice none 0 0)),type:=t,pos:= "slices.go:358",after:=#[],guard:=none}]
def cl3(t:TypeId):O Oper:=[{dst:=some 5,op:=.buildSlice t 0 #[],type:=t,pos:= "slices.go:362",after:=#[],guard:=none},{dst:=some 6,op:=.move (.tmp 0),type:=t,pos:= "slices.go:362",after:=#[],guard:=none},{dst:=some 7,op:=.call {callee:=.builtin .append,args:=#[.tmp 5,.tmp 6],argTypes:=#[t,t]},type:=t,pos:= "slices.go:362",after:=#[{on:=0,ground:=.data},{on:=1,ground:=.data}],guard:=none},{dst:=some 2,op:=.assign (.tmp 7),type:=t,pos:= "slices.go:362",after:=#[{on:=2,ground:=.data},{on:=2,ground:=.chain},{on:=0,ground:=.phase},{on:=1,ground:=.phase},{on:=2,ground:=.phase}],guard:=none}]
def e3e(t:TypeId):Code:=.seq (.region 3 (cl3 t).toArray false) .ret
def h0d(t b:TypeId):Code:=.seq (.region 0 (cl0 t).toArray false) (.seq (.seq (.region 1 (cl1 t b).toArray false) (.cond (.tmp 4) (.seq (.region 2 (cl2 t).toArray false) .ret) .skip)) (e3e t))
def g0q{P:Program}{η:Operand->A5}{w:World}{d:A3 Tmp}{ty t t' e:TypeId}{x y:Operand}{ps:String}{af:Array Edge}{g:A3 (Nat×Bool)}{a:A3 Addr}{n c:Nat}{q:Bool}(ht:P.underlying t=some (.slice e))(hx:η x=.slice a n c)(hy:η y=.slice none 0 0)(h:a.isNone=q):YV P η w ⟨d,.binOp .eql t x y t',ty,ps,af,g⟩ (.bool q):=by subst h;simp[YV,execOp,hx,hy,eqGuard,binOp,run_equal_slice_nil w t e a n c ht]
section
variable {U:Uni} {P:Program}
@[reducible] def clS(U:Uni)(e:TypeId)(c:U.C):Sig U:=⟨[.ls c],[.ow e c]⟩
def h3w(c:U.C)(l:O (U.T c)):U.St:=(((a02 0 [PK.ls c] ((l,()):Args U [PK.ls c])).app (some 2) .nils []).app (some 3) .unk []).app (some 4) .unk []
def clK(P:Program)(e:TypeId)(c:U.C)(σ:U.St):A3 (O (U.T c)):=unK (s:=clS U e c) (λp=>p.1.1) (e61 P (clS U e c) [.tmp 2] σ)
def b6g(hU:UOK U)(hm:P.follows .mixedOrders=true){f:FuncId}{fn:Func}{t e b:TypeId}{c:U.C}{N:Nat}(hf:P.funcs[f]?=some fn)(hb:fn.body=some (h0d t b))(hn:fn.ntmps=8)(hres:fn.results=#[.tmp 2])(ht:P.underlying t=some (.slice e))(hc:(a3z 8 (e3e t)&&c1m 8 [.tmp 2])=true)(hnil:e61 P (clS U e c) [.tmp 2] ((h3w c []).app (some 2) .nils [])=some (w1 []))(hd:∀l:O (U.T c),den P (λ_ _=>none) [] (e3e t) .n (h3w c l) ⟨λσ=>clK P e c σ,λ_ _=>none,λσ=>clK P e c σ⟩=(a4n N [] l).bind λr=>some r):Spec P f (⟨clS U e c,O (U.T c),λx=>a4n N [] x.1,w1,none⟩:Fent U):=by intro xs r hr Z G w us hlen hR;rw[qB]at hc;match us,hlen with
 |[u],hlen=>
   have s0:=hR.slot 0;have hr:a4n N [] xs.1=some r:=hr;refine callsIn_wide.1 (callsIn_of_wp (n:=9) hf hb trivial ?_ rfl);have ha:=c9e (n:=8) [u] (by simp);rw[show({tmps:=(([u].take (npK (clS U e c).ps)).toArray)++Array.replicate (fn.ntmps-(([u].take (npK (clS U e c).ps)).toArray).size) undef,defers:=[]}:Act)=Frd 8 (λt=>[u].getD t undef) []from by rw[hn];exact ha];have hE0:Ext noG w w:=Ext.refl _ _;refine wpIn_seq (wpIn_region ?_);refine a1q rfl rfl rfl rfl (b7t rfl) ?_;refine wpIn_seq (wpIn_seq (wpIn_region ?_));refine a1q rfl rfl rfl rfl (c08 rfl) ?_;have hR4:∀q,Rel _ Z _ (h3w c xs.1) (b20 (b20 (b20 (λt=>[u].getD t undef) (some 2) (.slice none 0 0)) (some 3) u) (some 4) (.bool q)) w:=λq=>((hR.val hE0 (a:=.nils) rfl).val hE0 (a:=.unk) trivial).val hE0 trivial;have hmi:c2u (clS U e c).ps 0 (clS U e c).ps=true:=rfl;rcases s0 with⟨rfl,hl⟩|⟨a,cap,rfl,_⟩
   .refine a1q rfl rfl rfl rfl (g0q ht rfl rfl rfl) ?_;refine wpIn_cond_true (by rfl) ?_;refine wpIn_seq (wpIn_region ?_);refine a1q rfl rfl rfl rfl (b7t rfl) ?_;have h5:=(hR4 true).val hE0 (d:=some 2) (a:=.nils) rfl;rw[hl]at h5 hr;obtain rfl:r=[]:=by unfold a4n at hr;split at hr<;>cases hr;rfl
    obtain⟨v,hv,hp⟩:=c2g hU hlen hmi h5 (by rw[hres];exact hc.2) (by rw[hres];omega);exact wpIn_ret ⟨rfl,v,hv,v,rfl,hp⟩
   .refine a1q rfl rfl rfl rfl (g0q ht rfl rfl rfl) ?_;refine wpIn_cond_false (by rfl) (wpIn_skip ?_);have hret:∀{σ:U.St},clK P e c σ=some r->e61 P (clS U e c) fn.results.toList σ=some (w1 r):=λ{σ}h=>by
     unfold clK unK at h;rw[hres];split at h;.cases h;omega
     .cases h
    have hw:=a6v hU (λ_ _ _ h=>by cases h) hm (e3e t) .n _ _ r hc.1 ((hd xs.1).trans (by rw[hr];rfl)) ⟨w,G,Z,c0f (clS U e c).ps,c7a [_]⟩ (λi=>by have:=c8q (clS U e c).ps 0 i;simp [Nat.zero_le,true_and,Nat.sub_zero]at this;exact this.symm) (λ_=>False) (λ_=>undef) (λe' ρ' w'=>(e'=.normal\/e'=.ret)/\∃v,(results fn (Fr 8 ρ').tmps).run P w'=.ok v w'/\Post (clS U e c) Z G w [_] (w1 r) v w') (λ_ h=>h.elim) ⟨λσ Z' π ρ w' _ hR' h'=>⟨.inl rfl,c2g hU hlen hmi hR' (by rw[hres];exact hc.2) (hret h')⟩,(λi σ Z' π ρ w' _ hR' h'=>by cases h'),λσ Z' π ρ w' _ hR' h'=>⟨.inr rfl,c2g hU hlen hmi hR' (by rw[hres];exact hc.2) (hret h')⟩⟩ Z _ _ w (λ_ h=>h.elim) (hR4 false);refine wpIn_mono (hw none [] (.inl rfl)) ?_;rintro e' a' w'⟨ρ',rfl,he,v,hv,hp⟩;rcases he with rfl|rfl<;>exact⟨rfl,v,hv,v,rfl,hp⟩
end
end Go.SX
namespace Go.PL
open Go
def g7y(x y c:Int):A3 (Int×Int):=if 0<=x/\0<=y/\0<=c/\c<=1then some ((x+y+c)%18446744073709551616,(x+y+c)/18446744073709551616)else none
def g8x(x y c:Int):A3 (Int×Int):=if 0<=x/\0<=y/\y<=18446744073709551615/\0<=c/\c<=1then some ((x-y-c)%18446744073709551616,if x<y+c then 1 else 0)else none
def g34{P:Program}{w:World}{x y c:Int}{r:Int×Int}(h:g7y x y c=some r){e:Array A5->Sem A5}(he:Extern.MathBitsCarry.rows.head?.map (·.2)=some e):(e #[.int .u64 x,.int .u64 y,.int .u64 c]).run P w=.ok (.tuple #[.int .u64 r.1,.int .u64 r.2]) w:=by
 obtain rfl:=qH he;unfold g7y at h;split at h
 .rename_i hb;let⟨h1,h2,h3,h4⟩:=hb;cases h;obtain⟨x,rfl⟩:=qT h1;obtain⟨y,rfl⟩:=qT h2;have hc:c=0\/c=1:=by omega
  have hk:∀k,k<=1->Result.ok (Extern.MathBitsCarry.pair ((x+y+k)%Extern.MathBitsCarry.m64) ((x+y+k)/Extern.MathBitsCarry.m64)) w=Result.ok (Value.tuple #[.int .u64 (((x:Int)+y+k)%18446744073709551616),.int .u64 (((x:Int)+y+k)/18446744073709551616)]) w:=by
   intro k _;have e1:(Int.ofNat ((x+y+k)%Extern.MathBitsCarry.m64))=((x:Int)+y+k)%18446744073709551616:=by show(((x+y+k)%18446744073709551616:Nat):Int)=_;omega
   have e2:(Int.ofNat ((x+y+k)/Extern.MathBitsCarry.m64))=((x:Int)+y+k)/18446744073709551616:=by show(((x+y+k)/18446744073709551616:Nat):Int)=_;omega
   unfold Extern.MathBitsCarry.pair;grind
  rcases hc with rfl|rfl;.exact(show _=Result.ok (Extern.MathBitsCarry.pair ((x+y+0)%Extern.MathBitsCarry.m64) ((x+y+0)/Extern.MathBitsCarry.m64)) w from rfl).trans (hk 0 (by omega))
  .exact(show _=Result.ok (Extern.MathBitsCarry.pair ((x+y+1)%Extern.MathBitsCarry.m64) ((x+y+1)/Extern.MathBitsCarry.m64)) w from rfl).trans (hk 1 (by omega))
 grind
def g3o{P:Program}{w:World}{x y c:Int}{r:Int×Int}(h:g8x x y c=some r){e:Array A5->Sem A5}(he:Extern.MathBitsCarry.rows.tail.head?.map (·.2)=some e):(e #[.int .u64 x,.int .u64 y,.int .u64 c]).run P w=.ok (.tuple #[.int .u64 r.1,.int .u64 r.2]) w:=by
 obtain rfl:=qH he;unfold g8x at h;split at h
 .rename_i hb;let⟨h1,h2,h5,h3,h4⟩:=hb;cases h;obtain⟨x,rfl⟩:=qT h1;obtain⟨y,rfl⟩:=qT h2;have hc:c=0\/c=1:=by omega
  have hk:∀k,k<=1->Result.ok (Extern.MathBitsCarry.pair ((x+Extern.MathBitsCarry.m64-y-k)%Extern.MathBitsCarry.m64) (if x<y+k then 1 else 0)) w=Result.ok (Value.tuple #[.int .u64 (((x:Int)-y-k)%18446744073709551616),.int .u64 (if(x:Int)<y+k then 1 else 0)]) w:=by
   intro k _;have e1:(Int.ofNat ((x+Extern.MathBitsCarry.m64-y-k)%Extern.MathBitsCarry.m64))=((x:Int)-y-k)%18446744073709551616:=by show(((x+18446744073709551616-y-k)%18446744073709551616:Nat):Int)=_;omega
   have e2:(Int.ofNat (if x<y+k then 1 else 0))=if(x:Int)<y+k then 1 else 0:=by show((if x<y+k then 1 else 0:Nat):Int)=_;split<;>split<;>omega
   unfold Extern.MathBitsCarry.pair;rw[e1,e2]
  rcases hc with rfl|rfl;.exact(show _=Result.ok (Extern.MathBitsCarry.pair ((x+Extern.MathBitsCarry.m64-y-0)%Extern.MathBitsCarry.m64) (if x<y+0then 1 else 0)) w from rfl).trans (hk 0 (by omega))
  .exact(show _=Result.ok (Extern.MathBitsCarry.pair ((x+Extern.MathBitsCarry.m64-y-1)%Extern.MathBitsCarry.m64) (if x<y+1then 1 else 0)) w from rfl).trans (hk 1 (by omega))
 grind
end Go.PL
namespace Go.SX
open Go Go.PL
section
variable {P:Program} {U:Uni}
def g46{ps:O (PK U.C)}{c d:U.C}{Z G:Nat->Prop}{w:World}{us:O A5}{o:Outs U ps}{x:U.T c}{y:U.T d}{u v:A5}(hx:a1p (cz Z w) (inj c x) u)(hy:a1p (cz Z w) (inj d y) v)(ho:OR (czO Z ps us w) ps o us)(hi:ioB ps us=[]):Post (⟨ps,[.v c,.v d]⟩:Sig U) Z G w us ((x,y,()),o) (.tuple #[u,v]) w:=⟨⟨Z,[u,v],us,rfl,λ_ h=>h,λ_ h=>.inl h,Ext.refl _ _,rfl,λ_ _ _ _=>rfl,⟨hx,hy,trivial⟩,ho,(λv hv=>by have hv:v∈([]:O A5)++ioB ps us:=hv;simp_all),(λi j v v' b _ hv=>by have hv:(([]:O A5)++ioB ps us)[i]?=some v:=hv;simp_all)⟩⟩
def d2m{g:Int->Int->Int->A3 (Int×Int)}{l:O (String×(Array A5->Sem A5))}(hg:∀{P:Program}{w:World}{x y c:Int}{r:Int×Int},g x y c=some r->∀{e:Array A5->Sem A5},l.head?.map (·.2)=some e->(e #[.int .u64 x,.int .u64 y,.int .u64 c]).run P w=.ok (.tuple #[.int .u64 r.1,.int .u64 r.2]) w){f:FuncId}{fn:Func}(hf:P.funcs[f]?=some fn)(h1:(fn.name== "runtime.NumGoroutine")=false)(h2:fn.body.isNone=true)(h3:Extern.findNext fn=none)(h4:Extern.find fn=l.head?.map (·.2))(hs:(l.head?.map (·.2)).isSome=true){a:U.C}(fa:U.T a->Int)(fb:Int->U.T a)(ha:∀x,(inj a x:U.AV)=.int .u64 (fa x))(hb:∀n,(inj a (fb n):U.AV)=.int .u64 n):d6d P f (⟨⟨[.v a,.v a,.v a],[.v a,.v a]⟩,Int×Int,λx=>g (fa x.1) (fa x.2.1) (fa x.2.2.1),λn=>((fb n.1,fb n.2,()),()),none⟩:Fent U):=by intro xs r hr Z G w us hl hR;match us,hl with|[u1,u2,u3],_=>have s0:AVR _ (inj a xs.1) u1:=hR.slot 0;have s1:AVR _ (inj a xs.2.1) u2:=hR.slot 1;have s2:AVR _ (inj a xs.2.2.1) u3:=hR.slot 2;rw[ha]at s0 s1 s2;let⟨e,he⟩:=Option.isSome_iff_exists.1 hs;refine⟨.tuple #[.int .u64 r.1,.int .u64 r.2],w,?_,g46 (by rw[hb];rfl) (by rw[hb];rfl) trivial rfl⟩;show(callFunc f #[u1,u2,u3]).run P w=_;rw[s0,s1,s2,run_callFunc_extern hf h1 h2 h3 (h4.trans he),hg hr he];rfl
end
section
variable {P:Program} {U:Uni}
def c39{c:U.C}{cells:U.T c->O A5}(hc:∀G w x,(Rp c).rep G w (cells x) x){B:Nat}{E:TypeId}{w:World}{v:A5}{l:O (U.T c)}(hO:PL.Own B E (U.n c) cells w v l)(X:Cx)(hw:X.w=w):MR X (.sl E c l) v:=by
 subst hw;refine⟨l.map λx=>(d0s (hc X.G X.w x)),?_,?_⟩
 .rcases hO with⟨hv,hl⟩|⟨g,o,cap,cur,hv,hg,hh,h1,h2,h3,h4⟩;.subst hl;exact .inl ⟨hv,rfl⟩
  .refine .inr ⟨g,o,cap,cur,by simpa using hv,Nat.zero_le _,hh,by simpa using h1,h2,h3,?_⟩;rw[List.length_map,h4,flatMap_map];rfl
 .clear hO;induction l with|nil=>trivial|cons x l ih=>exact⟨hc X.G X.w x,ih⟩
end
section
variable {U:Uni} {P:Program}
def slQ(ts e:TypeId)(c:U.C)(g:FuncId)(F:O (U.T c)->A3 (O (U.T c)))(fr:Nat)(as:O U.AV):U.Q:=match as with
 |[.ifc t (.ref j),.clo g' [.ref i]]=>.rdM i λm=>match m with
   |.box t' (.st _ [.ref j'])=>(match(Nat.beq t ts&&Nat.beq t' ts)&&(Nat.beq g g'&&Nat.beq j j')with
     |true=>.rdM j λm=>match m with|.sl e' _ l=>(match Nat.beq e e',b8i c l with|true,some l=>.opt (F l) λr=>.done (.tup []) [(j,.sl e c r)]|_,_=>.fail)|_=>.fail
     |false=>.fail)|_=>.fail
 |_=>.fail
def b9b{c:U.C}{e:TypeId}{cells:U.T c->O A5}{X:Cx}(hc1:∀(G:Nat->Prop)(w:World)(cs:O A5)(x:U.T c),(Rp c).rep G w cs x->cs=cells x){l:O (U.T c)}{v:A5}(h:MR X (.sl e c l) v):PL.Own 0 e (U.n c) cells X.w v l:=by
 obtain⟨css,hO,hr⟩:=h;have hl:=y7.length hr;have hf:css.flatMap Subtype.val=l.flatMap cells:=by clear hO hl;induction css generalizing l with
  |nil=>cases l with|nil=>rfl|cons _ _=>exact hr.elim
  |cons s css ih=>cases l with|nil=>exact hr.elim|cons x l=>rw[flatMap_cons,flatMap_cons,ih hr.2,hc1 _ _ _ _ hr.1]
 rcases hO with⟨h1,h2⟩|⟨g,o,cap,cur,h1,h2,h3,h4,h5,h6,h7⟩;.subst h2;exact .inl ⟨h1,List.length_eq_zero_iff.1 hl.symm⟩
 .rw[hl]at h1 h4 h7;exact .inr ⟨g,o,cap,cur,h1,h2,h3,h4,h5,h6,h7.trans hf⟩
def g47{c:U.C}{ts e:TypeId}{cells:U.T c->O A5}{f g:FuncId}{F:O (U.T c)->A3 (O (U.T c))}(hcall:b44 P f)(hc1:∀(G:Nat->Prop)(w:World)(cs:O A5)(x:U.T c),(Rp c).rep G w cs x->cs=cells x)(hc2:∀(G:Nat->Prop)(w:World)(x:U.T c),(Rp c).rep G w (cells x) x)(h:∀(l r:O (U.T c))(w:World)(v:A5)(bc:Nat),PL.Own 0 e (U.n c) cells w v l->Mb w bc ts [v]->v.ownBlock≠some bc->F l=some r->Calls P f #[.iface ts v,.func (.func g) #[] #[.pointer (some ⟨bc,0,none⟩)]] w λq w'=>q=.returned (.tuple #[])/\Ext (λb=>v.ownBlock=some b) w w'/\PL.Own 0 e (U.n c) cells w' v r):d6v P f (slQ ts e c g F):=by
 refine⟨hcall,λE Z π σ ρ w fr as us m0 m v ws hR has hev=>?_⟩;unfold slQ at hev;split at hev;case h_2=>exact hev.elim
 rename_i t j g' i;replace hev:(match σ.mem i with|.box t' (.st _ [.ref j'])=>(match(Nat.beq t ts&&Nat.beq t' ts)&&(Nat.beq g g'&&Nat.beq j j')with|true=>Q.rdM j λ(m:U.MC)=>(match m with|.sl e' _ l=>(match Nat.beq e e',b8i c l with|true,some l=>Q.opt (F l) λr=>(.done (.tup []) [(j,.sl e c r)]:U.Q)|_,_=>(.fail:U.Q))|_=>(.fail:U.Q))|false=>.fail)|_=>(.fail:U.Q)).Ev σ _ m v ws:=hev;have hmi:=hR.mem i;split at hev;case h_2=>exact hev.elim
 rename_i t' cl j' hm;rw[hm]at hmi;split at hev;case h_2=>exact hev.elim
 rename_i hb;simp only[qB]at hb;have e1:=qC hb.1.1;have e2:=qC hb.1.2;have e3:=qC hb.2.1;have e4:=qC hb.2.2;subst e1 e2 e3 e4;let⟨bc,u,hpi,hM,hu⟩:=d51 hmi;have hu:=hu.2.1;subst hu;replace hev:(match σ.mem j with|.sl e' _ l=>(match Nat.beq e e',b8i c l with|true,some l=>Q.opt (F l) λr=>.done (.tup []) [(j,.sl e c r)]|_,_=>.fail)|_=>(.fail:U.Q)).Ev σ _ m v ws:=hev;have hmj:=hR.mem j;split at hev;case h_2=>exact hev.elim
 rename_i e' c' l' hmm;rw[hmm]at hmj;split at hev;case h_2=>exact hev.elim
 rename_i l hbe hl;let⟨hce,hle⟩:=a3i (G:=noG) (w:=default) hl;subst hce;subst hle;have he:=qC hbe;subst he;obtain⟨r,hF,_,rfl,rfl⟩:=hev;have hO:=b9b hc1 hmj;let⟨ad,cap,hsh,_⟩:=hO.shape;have hMv:Mb w bc t' [π j]:=by have hM:Mb w bc t' (π j).cells.toList:=hM;rw[hsh]at hM⊢;simpa[Value.cells]using hM
 have hne:=λhh=>by
  have h1:MB (σ.mem j) (π j) bc:=by rw[hmm];exact(a95 hsh).1 hh
  have h2:MB (σ.mem i) (π i) bc:=by rw[hm,hpi];rfl
  have hij:i≠j:=λe=>by simp_all
  exact hR.dist i j bc hij h2 h1
 match us,has with|[],has=>exact has.elim|[_],has=>exact has.2.elim|_::_::_::_,has=>exact has.2.2.elim|[u1,u2],has=>let⟨q1,hq1,ha1⟩:=has.1;let⟨vs,hq2,hvs⟩:=has.2.1;match vs,hvs with
   |[],hvs=>exact hvs.elim|_::_::_,hvs=>exact hvs.2.elim|[p],hvs=>
     have hq:q1=π j:=ha1.2.1;have hp:p=π i:=hvs.1.2.1;subst hq1 hq2 hq hp;rw[show([.iface t' (π j),.func (.func g) #[] [π i].toArray]:O A5).toArray=#[.iface t' (π j),.func (.func g) #[] #[.pointer (some ⟨bc,0,none⟩)]]by rw[hpi]];refine(h _ _ _ _ bc hO hMv hne hF).mono λq w'⟨hq,hE,hO'⟩=>⟨_,hq,λd=>⟨Z,π,?_⟩⟩;refine hR.set (λhh=>by rw[hmm]at hh;cases hh) (λhh=>by cases hh) (hE.mono λb hb=>?_) (λX' hle hw=>?_) (λb hb=>?_) λX' _=>⟨[],rfl,trivial⟩;.rw[hmm];exact(a95 hsh).1 hb
     .exact c39 hc2 hO' X' hw
     .rw[hmm];exact hb
end
section
variable {U:Uni} {P:Program}
def skQ(gk:FuncId)(tk e:TypeId)(c:U.C)(f:Int->U.T c)(fr:Nat)(as2:O U.AV):U.Q:=match as2 with
 |[.clo q [.ref i]]=>.rdM i λm=>match m with
   |.box t' (.ref j)=>(match Nat.beq q gk&&Nat.beq t' tk with
     |true=>.rdM j λm=>match m with
       |.mp l=>.opt (c8c l) λr=>.rdM fr λ|.never=>.done (.ref fr) [(fr,.sl e c (r.map f))]|_=>.fail
       |_=>.fail
     |false=>.fail)|_=>.fail
 |_=>.fail
abbrev cellsZ:Int->O A5:=λx=>[.int .i64 x]
def g3x{f gk:FuncId}{tk e:TypeId}{c:U.C}{fi:Int->U.T c}(hcall:b44 P f)(hn:U.n c=1)(hfi:∀x,U.flds c (fi x)=[.int .i64 x])(hK:∀(i mb:Nat)(l:O (Int×Int))(r:O Int)(w:World),Mb w i tk [.map (some mb)]->(l.map (·.1)).Nodup->w.heap[mb]?=some (b92 l)->c8c l=some r->Calls P f #[.func (.func gk) #[] #[.pointer (some ⟨i,0,none⟩)]] w λq w'=>∃v,q=.returned v/\Ext noG w w'/\PL.Own w.heap.size e 1 cellsZ w' v r):d6v P f (skQ gk tk e c fi):=by
 refine⟨hcall,λE Z π σ ρ w fr as2 us m0 m v ws hR has hev=>?_⟩;have hrep:∀(G:Nat->Prop)(w:World)(x:Int),(Rp c).rep G w (cellsZ x) (fi x):=λG w x=>a91.2 ⟨hn.symm,[[.int .i64 x]],rfl,by rw[hfi];exact⟨rfl,trivial⟩⟩;have fin:∀{r:O Int}{w':World}{u:A5},σ.mem fr=.never->Ext noG w w'->PL.Own w.heap.size e 1 cellsZ w' u r->∀d,∃Z' π',Rel E Z' π' (σ.app d (.ref fr) [(fr,.sl e c (r.map fi))]) (b20 ρ d u) w':=by
  intro r w' u hnv hE hO d;obtain⟨ad,cap,hsh,-⟩:=hO.shape;refine⟨Z,c0j π fr u,hR.new (dead:=[]) (mc:=.sl e c (r.map fi)) hnv (λhh=>by cases hh) (hE.mono λ_ hh=>hh.elim) (λX' hle hw _=>⟨r.map λx=>⟨cellsZ x,hn.symm,λu hu=>by simp at hu;subst hu;rfl⟩,?_,?_⟩) (λb hb=>?_) (by rw[hsh];rfl)⟩
  .rw[hw];rcases hO with⟨h1,h2⟩|⟨g,o,cap,cur,h1,h2,h3,h4,h5,h6,h7⟩;.subst h2;exact .inl ⟨h1,rfl⟩
   .exact .inr ⟨g,o,cap,cur,by simpa using h1,Nat.zero_le _,h3,by simpa using h4,h5,by rw[hn];omega,by rw[List.length_map,flatMap_map,show r.length*U.n c=r.length*1from by rw[hn]];omega⟩
  .clear hO hsh;induction r with|nil=>trivial|cons x r ih=>exact⟨hrep _ _ x,ih⟩
  .have:=hO.lt ((a95 hsh).2 hb);omega
 unfold skQ at hev;split at hev;case h_2=>exact hev.elim
 rename_i q i;match us,has with|[],has=>exact has.elim|_::_::_,has=>exact has.2.elim|[u],has=>let⟨vs,hu,hvs⟩:=has.1;match vs,hvs with
 |[],hvs=>exact hvs.elim|_::_::_,hvs=>exact hvs.2.elim|[p],hvs=>
 have hpi:p=π i:=hvs.1.2.1;replace hev:(match σ.mem i with
  |.box t' (.ref j)=>(match Nat.beq q gk&&Nat.beq t' tk with
    |true=>Q.rdM j λm=>(match m with
      |.mp l=>.opt (c8c l) λr=>.rdM fr λ|.never=>.done (.ref fr) [(fr,.sl e c (r.map fi))]|_=>.fail
      |_=>.fail)|false=>.fail)|_=>(.fail:U.Q)).Ev σ _ m v ws:=hev;have hm:=hR.mem i;have last:∀{o:A3 (O Int)}{m1:Nat},(Q.opt o λr=>Q.rdM fr λ(m:U.MC)=>(match m with|.never=>Q.done (.ref fr) [(fr,.sl e c (r.map fi))]|_=>.fail)).Ev σ m1 m v ws->∃r,o=some r/\σ.mem fr=.never/\v=.ref fr/\ws=[(fr,.sl e c (r.map fi))]:=by
  intro o m1 hh;let⟨r,hr,hh⟩:=hh;have hh:(match σ.mem fr with|.never=>Q.done (.ref fr) [(fr,.sl e c (r.map fi))]|_=>(.fail:U.Q)).Ev σ _ m v ws:=hh;split at hh;.rename_i hn;exact⟨r,hr,hn,hh.2.1,hh.2.2⟩
  .exact hh.elim
 split at hev
 .rename_i t' j hmi;rw[hmi]at hm;split at hev;case h_2=>exact hev.elim
  rename_i hg;simp only[qB]at hg;have g1:=qC hg.1;have g2:=qC hg.2;subst g1 g2;replace hev:(match σ.mem j with
    |.mp l=>Q.opt (c8c l) λr=>.rdM fr λ|.never=>.done (.ref fr) [(fr,.sl e c (r.map fi))]|_=>.fail
    |_=>(.fail:U.Q)).Ev σ _ m v ws:=hev;have hj:=hR.mem j;split at hev;case h_2=>exact hev.elim
  rename_i l hmj;rw[hmj]at hj;obtain⟨r,hr,hnv,rfl,rfl⟩:=last hev;let⟨b,u1,hv,hM,ha⟩:=hm;let⟨mb,hmv,hnd,hob⟩:=hj;have hM:=by have h1:=ha.2.1.trans hmv;rw[h1]at hM;exact hM
  rw[hu,show[p].toArray=#[.pointer (some ⟨b,0,none⟩)]by rw[hpi,hv]];exact(hK b mb l r w hM hnd hob hr).mono λq w'⟨v,h1,h2,h3⟩=>⟨v,h1,fin hnv h2 h3⟩
 .exact hev.elim
def soQ(e:TypeId)(c:U.C)(F:O (U.T c)->A3 (O (U.T c)))(fr:Nat)(as2:O U.AV):U.Q:=match as2 with
 |[.ref id]=>.rdM id λm=>match m with|.sl e' _ l=>(match Nat.beq e e',b8i c l with|true,some l=>.opt (F l) λr=>.done (.tup []) [(id,.sl e c r)]|_,_=>.fail)|_=>.fail
 |_=>.fail
def g65{c:U.C}{e:TypeId}{cells:U.T c->O A5}{f:FuncId}{F:O (U.T c)->A3 (O (U.T c))}(hcall:b44 P f)(hc1:∀(G:Nat->Prop)(w:World)(cs:O A5)(x:U.T c),(Rp c).rep G w cs x->cs=cells x)(hc2:∀(G:Nat->Prop)(w:World)(x:U.T c),(Rp c).rep G w (cells x) x)(h:∀(l r:O (U.T c))(w:World)(v:A5),PL.Own 0 e (U.n c) cells w v l->F l=some r->Calls P f #[v] w λq w'=>q=.returned (.tuple #[])/\Ext (λb=>v.ownBlock=some b) w w'/\PL.Own 0 e (U.n c) cells w' v r):d6v P f (soQ e c F):=by
 refine⟨hcall,λE Z π σ ρ w fr as2 us m0 m v ws hR has hev=>?_⟩;unfold soQ at hev;split at hev;case h_2=>exact hev.elim
 rename_i id;replace hev:(match σ.mem id with|.sl e' _ l=>(match Nat.beq e e',b8i c l with|true,some l=>Q.opt (F l) λr=>.done (.tup []) [(id,.sl e c r)]|_,_=>.fail)|_=>(.fail:U.Q)).Ev σ _ m v ws:=hev;split at hev;case h_2=>exact hev.elim
 rename_i e' c' l' hm;split at hev;case h_2=>exact hev.elim
 rename_i l he hl;obtain⟨r,hF,_,rfl,rfl⟩:=hev;match us,has with
 |[],has=>exact has.elim|_::_::_,has=>exact has.2.elim|[u],has=>
 let⟨hce,hle⟩:=a3i (G:=noG) (w:=default) hl;subst hce;subst hle;have he:=qC he;subst he;have hmem:=hR.mem id;rw[hm]at hmem;have hO:=b9b hc1 hmem;let⟨ad,cap,hsh,_⟩:=hO.shape;rw[show u=π id from has.1.2.1];refine(h _ _ _ _ hO hF).mono λq w'⟨hq,hE,hO'⟩=>⟨_,hq,λd=>⟨Z,π,?_⟩⟩;refine hR.set (λhh=>by rw[hm]at hh;cases hh) (λhh=>by cases hh) (hE.mono λb hb=>?_) (λX' hle hw=>?_) (λb hb=>?_) λX' _=>⟨[],rfl,trivial⟩;.rw[hm];exact(a95 hsh).1 hb
 .exact c39 hc2 hO' X' hw
 .rw[hm];exact hb
end
section
variable {P:Program} {n:Nat}
def c7o(P:Program):O Oper->((Nat->A5)->World->Prop)->(Nat->A5)->World->Prop|[],K,ρ,w=>K ρ w|o::r,K,ρ,w=>o.guard=none/\a0k P o (ev ρ) w λv w'=>c7o P r K (b20 ρ o.dst v) w'
def c7o.mono:∀{ops:O Oper}{K K':(Nat->A5)->World->Prop}{ρ:Nat->A5}{w:World},c7o P ops K ρ w->(∀ρ w,K ρ w->K' ρ w)->c7o P ops K' ρ w|[],_,_,_,_,h,hk=>hk _ _ h|_::_,_,_,_,_,h,hk=>⟨h.1,h.2.mono λ_ _ h'=>c7o.mono h' hk⟩
def c7o.append:∀{a b:O Oper}{K:(Nat->A5)->World->Prop}{ρ:Nat->A5}{w:World},c7o P a (c7o P b K) ρ w->c7o P (a++b) K ρ w|[],_,_,_,_,h=>h|_::a,b,K,_,_,h=>⟨h.1,h.2.mono λ_ _ h'=>c7o.append h'⟩
def WP.straight{Q:Exit->(Nat->A5)->World->Prop}{id:Nat}{ops:O Oper}{ρ:Nat->A5}{w:World}(hc:(Plan.okTmps ops n&&Plan.okSel ops)=true)(h:c7o P ops (Q .normal) ρ w):WP P n (.region id ops.toArray false) Q ρ w:=by
 rw[qB]at hc;intro rr ds _;refine wpIn_region ?_;have key:∀(m k:Nat)(ρ:Nat->A5)(w:World),k+m=ops.length->c7o P (ops.drop k) (Q .normal) ρ w->wpOpsIn (FR rr) 9 P ops.toArray (λe a w=>∃ρ',a=Frd n ρ' ds/\Q e ρ' w) (List.range' k m) (Frd n ρ ds) w:=by intro m;induction m with|zero=>intro k ρ w hk h;rw[drop_of_length_le (by omega)]at h;exact⟨ρ,rfl,h⟩|succ m ih=>
    intro k ρ w hk h;have hklt:k<ops.length:=by omega
    have ho:=qG hklt;rw[drop_eq_getElem_cons hklt]at h;rw[range'_succ,wpOpsIn_cons];unfold wpOpIn;simp [getElem?_toArray,ho];have hw:Region.wanted ops[k] (yielded ops.toArray (Frd n ρ ds).tmps)=true:=by unfold Region.wanted;rw[h.1]
    rw[if_pos hw];refine a0k.wp (K:=λv w'=>c7o P (ops.drop (k+1)) (Q .normal) (b20 ρ ops[k].dst v) w') ?_ ?_;.have h1:=h.2;unfold a0k at h1⊢;rwa[c0s hc.1 hc.2 ho ρ]
    .intro v w' h1;rw[c6r];grind
 rw[range_eq_range'];simp_all
end
section
variable {P:Program} {U:Uni} {Φ:Phi U} {E:Env}
def e1o(P:Program){U:Uni}(Φ:Phi U){R:Type}:Nat->O Oper->U.St->(U.St->A3 R)->A3 R|_,[],σ,K=>K σ|b,o::r,σ,K=>match o.guard with|none=>(opQ P Φ b o.op).eval σ 0 λ_ v ws=>e1o P Φ (b+16) r (σ.app o.dst v ws) K|some _=>none
def d5p(ops:O Oper):O Nat:=ops.filterMap (·.dst)
def d2x{o:Oper}{r:O Oper}{t:Nat}(h:t∉d5p (o::r)):t∉d5p r/\∀u(ρ:Nat->A5),b20 ρ o.dst u t=ρ t:=by
 unfold d5p at h⊢;refine⟨λhh=>h ?_,λu ρ=>?_⟩;.simp_all
 .cases hd:o.dst with|none=>rfl|some d=>exact c1l _ _ λe=>h (List.mem_filterMap.2 ⟨o,qI,by simp_all⟩)
def c01(hU:UOK U)(hΦ:OKΦ P Φ){R:Type}:∀(ops:O Oper)(b:Nat)(σ:U.St)(K:U.St->A3 R)(r:R)(Z:Nat->Prop)(π ρ:Nat->A5)(w:World),e1o P Φ b ops σ K=some r->Rel E Z π σ ρ w->c7o P ops (λρ' w'=>(∃σ' Z' π',K σ'=some r/\Rel E Z' π' σ' ρ' w')/\∀t,t∉d5p ops->ρ' t=ρ t) ρ w
 |[],b,σ,K,r,Z,π,ρ,w,h,hR=>⟨⟨σ,Z,π,h,hR⟩,λ_ _=>rfl⟩|o::ops,b,σ,K,r,Z,π,ρ,w,h,hR=>by
   unfold e1o at h;split at h;.rename_i hg;let⟨m,v,ws,hev,h⟩:=c8x h;refine⟨hg,(c1h hU hΦ hR hev).mono ?_⟩;rintro u w'⟨Z',π',hR'⟩;refine(c01 hU hΦ ops _ _ K r Z' π' _ w' h hR').mono ?_;rintro ρ' w''⟨h1,h2⟩;exact⟨h1,λt ht=>by rw[h2 t (d2x ht).1,(d2x ht).2]⟩
   simp_all
def b35{ops:O Oper}{T:O Nat}(h:(T.all λt=>!((d5p ops).any (Nat.beq t)))=true){t:Nat}(ht:t∈T):t∉d5p ops:=λhm=>by have h1:=qX.1 h t ht;have h2:=List.any_eq_true.2 ⟨t,hm,Nat.beq_refl t⟩;simp_all
def cA:Code->Code|.seq a _=>a|.cond _ a _=>a|c=>c
def cB:Code->Code|.seq _ b=>b|.cond _ _ b=>b|c=>c
def cK:Code->Code|.block _ a=>a|.loop a=>a|c=>c
def c5o:Code->O Oper|.region _ a _=>a.toList|_=>[]
def e43(n:Nat):Code->Bool|.region _ a false=>Plan.okTmps a.toList n&&Plan.okSel a.toList|_=>false
def g7n:Code->Bool|.seq _ _=>true|_=>false
def g7r(id:Nat):Code->Bool|.block i _=>Nat.beq i id|_=>false
def g0z:Code->Bool|.loop _=>true|_=>false
def f2p(n t:Nat):Code->Bool|.cond (.tmp t') _ _=>Nat.beq t' t&&Nat.blt t n|_=>false
section
variable {n:Nat} {c:Code} {Q:Exit -> (Nat -> A5) -> World -> Prop} {ρ:Nat -> A5} {w:World}
def WP.seqP(h:g7n c=true)(hw:WP P n (cA c) (d78 (WP P n (cB c) Q) Q) ρ w):WP P n c Q ρ w:=by cases c<;>first|exact WP.seq hw|(exact absurd h (by simp[g7n]))
def WP.blockP{id:Nat}(h:g7r id c=true)(hw:WP P n (cK c) (e48 id Q) ρ w):WP P n c Q ρ w:=by cases c<;>first|(rename_i i a;obtain rfl:=qC (show Nat.beq i id=true from h);exact WP.block hw)|(exact absurd h (by simp[g7r]))
def WP.loopP(h:g0z c=true)(hw:WP P n (.loop (cK c)) Q ρ w):WP P n c Q ρ w:=by cases c<;>first|exact hw|(exact absurd h (by simp[g0z]))
def WP.condP{t:Nat}{b:Bool}(h:f2p n t c=true)(hb:ρ t=.bool b)(ht:b=true->WP P n (cA c) Q ρ w)(hf:b=false->WP P n (cB c) Q ρ w):WP P n c Q ρ w:=by
 cases c;case cond o a d=>
  cases o;case tmp t'=>have h:(Nat.beq t' t&&Nat.blt t n)=true:=h;rw[qB]at h;obtain rfl:=qC h.1;exact WP.cond (by have:=h.2;simp [Nat.blt_eq]at this;exact decide_eq_true this) hb ht hf
  all_goals exact absurd h (by simp[f2p])
 all_goals exact absurd h (by simp[f2p])
def g16:Code->Bool|.skip=>true|_=>false
def g01(id:Nat):Code->Bool|.exit i=>Nat.beq i id|_=>false
def g7e:Code->Bool|.ret=>true|_=>false
def WP.skipP(h:g16 c=true)(hq:Q .normal ρ w):WP P n c Q ρ w:=by cases c<;>first|exact WP.skip hq|(exact absurd h (by simp[g16]))
def WP.exitP{id:Nat}(h:g01 id c=true)(hq:Q (.exit id) ρ w):WP P n c Q ρ w:=by cases c<;>first|(rename_i i;obtain rfl:=qC (show Nat.beq i id=true from h);exact WP.exit hq)|(exact absurd h (by simp[g01]))
def WP.retP(h:g7e c=true)(hq:Q .ret ρ w):WP P n c Q ρ w:=by cases c<;>first|exact WP.ret hq|(exact absurd h (by simp[g7e]))
def WP.regP(h:e43 n c=true)(hs:c7o P (c5o c) (Q .normal) ρ w):WP P n c Q ρ w:=by
 cases c;case region id a d=>
  cases d;.have:=WP.straight (id:=id) h hs;omega
  .exact absurd h (by simp[e43])
 all_goals exact absurd h (by simp[e43])
def WP.fragP(hU:UOK U)(hΦ:OKΦ P Φ)(h:e43 n c=true){R:Type}{b:Nat}{σ:U.St}{K:U.St->A3 R}{r:R}{Z:Nat->Prop}{π:Nat->A5}(hr:e1o P Φ b (c5o c) σ K=some r)(hR:Rel E Z π σ ρ w)(hk:∀σ' Z' π' ρ' w',K σ'=some r->Rel E Z' π' σ' ρ' w'->(∀t,t∉d5p (c5o c)->ρ' t=ρ t)->Q .normal ρ' w'):WP P n c Q ρ w:=WP.regP h ((c01 hU hΦ _ _ _ _ _ _ _ _ _ hr hR).mono λρ' w'⟨⟨σ',Z',π',h1,h2⟩,h3⟩=>hk σ' Z' π' ρ' w' h1 h2 h3)
end
def refM{U:Uni}(s:U.St)(t:Nat):A3 U.MC:=match s.slot t with|.ref id=>some (s.mem id)|_=>none
def c94{s:U.St}{t:Nat}{m:U.MC}(h:refM s t=some m):∃id,s.slot t=.ref id/\s.mem id=m:=by unfold refM at h;grind
def Rel.refM{Z:Nat->Prop}{π:Nat->A5}{σ:U.St}{ρ:Nat->A5}{w:World}(h:Rel E Z π σ ρ w){t:Nat}{m:U.MC}(hm:refM σ t=some m):MR (cx Z π σ w) m (ρ t)/\∀b,MB m (ρ t) b->¬Z b/\b<w.heap.size/\(E.G b\/E.w0.heap.size<=b):=by let⟨id,h1,h2⟩:=c94 hm;have hs:=h.slot t;rw[h1]at hs;have h3:=h.mem id;rw[h2]at h3;rw[show ρ t=π id from hs.2.1];refine⟨h3,λb hb=>h.own id b ?_⟩;simp_all
def b96{X:Cx}{ρ:Nat->A5}{me:O (Nat×U.MC)}{nx:Nat}:∀{sl:O (Nat×U.AV)},(∀p∈sl,AVR X p.2 (ρ p.1))->∀t,AVR X ((⟨sl,me,nx⟩:U.St).slot t) (ρ t):=by intro sl h t;unfold St.slot;cases hl:lk t sl with|none=>exact trivial|some a=>exact h (t,a) (b1x hl)
def Rel.fresh{sl:O (Nat×U.AV)}{nx:Nat}{ρ:Nat->A5}{w:World}(ht:U.tab w/\∀b,U.tb b->b<w.heap.size)(h:∀t,AVR (⟨λb=>b<w.heap.size,λ_=>undef,λ_=>False,w⟩:Cx) ((⟨sl,[],nx⟩:U.St).slot t) (ρ t)):Rel ⟨w,noG,λb=>b<w.heap.size,λ_=>False,λ_=>undef⟩ (λb=>b<w.heap.size) (λ_=>undef) (⟨sl,[],nx⟩:U.St) ρ w:=by have hu:b7a (⟨sl,[],nx⟩:U.St)=λ_=>False:=funext λid=>propext ⟨λhh=>hh rfl,False.elim⟩;refine⟨λt=>?_,λid=>trivial,λid b hb=>hb.elim,λid id' b _ hb=>hb.elim,λb hb=>hb,λb hb=>.inl hb,λb hb=>hb,Ext.refl _ _,λid h=>h.elim,ht.1,λb hb=>⟨ht.2 b hb,λhh=>hh⟩⟩;unfold cx;simp_all
def Rel.fresh1{sl:O (Nat×U.AV)}{nx:Nat}{ρ:Nat->A5}{w:World}{e:TypeId}{c:U.C}{l:O (U.T c)}{v:A5}(ht:U.tab w/\∀b,U.tb b->b<w.heap.size/\hdV v≠some b)(hm:MR (⟨λb=>b<w.heap.size/\hdV v≠some b,λ_=>v,λid=>id=0,w⟩:Cx) (.sl e c l:U.MC) v)(hlt:∀b,hdV v=some b->b<w.heap.size)(h:∀t,AVR (⟨λb=>b<w.heap.size/\hdV v≠some b,λ_=>v,λid=>id=0,w⟩:Cx) ((⟨sl,[(0,.sl e c l)],nx⟩:U.St).slot t) (ρ t)):Rel ⟨w,λb=>hdV v=some b,λb=>b<w.heap.size/\hdV v≠some b,λ_=>False,λ_=>undef⟩ (λb=>b<w.heap.size/\hdV v≠some b) (λ_=>v) (⟨sl,[(0,.sl e c l)],nx⟩:U.St) ρ w:=by
 have hmem:∀id,(⟨sl,[(0,.sl e c l)],nx⟩:U.St).mem id=if id=0then .sl e c l else .never:=by intro id;cases id with|zero=>rfl|succ k=>rfl
 have hu:b7a (⟨sl,[(0,.sl e c l)],nx⟩:U.St)=λid=>id=0:=funext λid=>propext (by
  unfold b7a;rw[hmem];split;.rename_i h;exact⟨λ_=>h,λ_ hh=>by cases hh⟩
  .rename_i h;exact⟨λhh=>absurd rfl hh,λhh=>absurd hh h⟩);have hMB:∀id b,MB ((⟨sl,[(0,.sl e c l)],nx⟩:U.St).mem id) v b->id=0/\hdV v=some b:=by
  intro id b hb;rw[hmem]at hb;split at hb;.rename_i h;exact⟨h,hb⟩
  .exact hb.elim
 refine⟨λt=>?_,λid=>?_,λid b hb=>?_,λid id' b hne hb hb'=>?_,λb hb=>hb.1,λb hb=>.inl hb,λb hb=>hb,Ext.refl _ _,λid h=>h.elim,ht.1,λb hb=>ht.2 b hb⟩;.unfold cx;rw[hu];exact h t
 .unfold cx;rw[hu,hmem];split;.omega
  .exact trivial
 .have:=(hMB id b hb).2;exact⟨λhz=>hz.2 this,hlt b this,.inl this⟩
 .exact hne ((hMB _ _ hb).1.trans (hMB _ _ hb').1.symm)
end
def kvv(q:Int×Int):A5:=.agg #[.int .i64 q.1,.int .i64 q.2]
def g5m{a b:Int×Int}(h:kvv a=kvv b):a=b:=by simp [kvv,Value.agg.injEq,Array.mk.injEq,List.cons.injEq,Value.int.injEq,true_and,and_true]at h;grind
abbrev ML:=O ((Int×Int)×A5)
def a4j(q:((Int×Int)×A5)×Nat):MapEntry:={key:=kvv q.1.1,val:=q.1.2,born:=q.2}
def c00(L:ML):Obj:=.map (L.zipIdx.map a4j).toArray L.length
def e9o:∀{α:Type}(L:O ((Int×Int)×α))(k:Int×Int),ixK L k<=L.length
 |_,[],_=>Nat.le_refl _|_,q::r,k=>by
   unfold ixK;split;.omega
   .exact Nat.succ_le_succ (e9o r k)
def e8a:∀{α:Type}(L:O ((Int×Int)×α))(k:Int×Int),ixK L k<L.length->∃v,L[ixK L k]?=some (k,v)
 |_,[],_,h=>absurd h (Nat.not_lt_zero _)|_,q::r,k,h=>by
   unfold ixK at h⊢;split;.grind
   .rename_i e;rw[if_neg e]at h;let⟨v,hv⟩:=e8a r k (Nat.lt_of_succ_lt_succ h);simp_all
def e2n:∀{α:Type}(L:O ((Int×Int)×α))(k:Int×Int),¬ixK L k<L.length->∀q∈L,q.1≠k
 |_,[],_,_,_,h=>by grind|_,p::r,k,h,q,hq=>by
   unfold ixK at h;split at h;.simp_all
   .rcases qO.1 hq with rfl|hq;.omega
    .exact e2n r k (λhh=>h (Nat.succ_lt_succ hh)) q hq
def e32:∀{α:Type}(L:O ((Int×Int)×α))(k:Int×Int)(j:Nat)(v:α),(L.map (·.1)).Nodup->L[j]?=some (k,v)->ixK L k=j|_,[],_,_,_,_,h=>by grind|_,p::r,k,0,v,_,h=>by simp at h;unfold ixK;simp_all|_,p::r,k,j+1,v,hn,h=>by simp only[map_cons,nodup_cons]at hn;have hne:p.1≠k:=λe=>hn.1 (by rw[e];exact List.mem_map.2 ⟨(k,v),qE h,rfl⟩);unfold ixK;rw[if_neg hne,e32 r k j v hn.2 h]
def g3p{α:Type}(L:O ((Int×Int)×α))(k:Int×Int)(z:α):∃v,(c3v L k z)[ixK L k]?=some (k,v)/\(ixK L k<L.length/\L[ixK L k]?=some (k,v)\/ixK L k=L.length/\v=z):=by
 unfold c3v;split;.rename_i h;let⟨v,hv⟩:=e8a L k h;simp_all
 .have h2:ixK L k=L.length:=by have:=e9o L k;omega
  simp_all
def g5u{α:Type}:∀(L:O α)(n j:Nat),(L.zipIdx n)[j]?=(L[j]?).map λx=>(x,n+j)|[],n,j=>by simp|x::r,n,0=>by simp|x::r,n,j+1=>by grind
def b8f(L:ML)(j:Nat):(L.zipIdx.map a4j)[j]?=(L[j]?).map λx=>a4j (x,j):=by grind
section
variable {P:Program} {t k e:TypeId} {b:Nat} {L:ML} {w:World} {q:Int×Int} {z:A5}
structure KeyS(P:Program)(k:TypeId)(S:Int×Int->Prop):Prop where
 law:WideMaps.KeyLaw P k
 rd:∀q,S q->∃l,keyOf P k (kvv q)=some l
def f3w(P:Program)(t:TypeId):Bool:=match P.underlying t with|some (.int .i64)=>Nat.beq (P.cellsOf t) 1|_=>false
def e7y(P:Program)(k:TypeId):Bool:=match P.underlying k with|some (.struct fs)=>(match fs.toList with|[f0,f1]=>(P.keyType k&&(Nat.beq (P.cellsOf k) 2&&Nat.blt 0 P.types.size))&&((f0.name != "_"&&(f1.name != "_"&&(Nat.beq f0.offset 0&&Nat.beq f1.offset 1)))&&(f3w P f0.type&&f3w P f1.type))|_=>false)|_=>false
def d2v{P:Program}{t:TypeId}(h:f3w P t=true){d:Nat}{n:Int}(hw:(Lit.int .i64 n).wf=true){r:O A5}:P.cellsOf t=1/\P.keyLits (d+1) t [.int .i64 n]=some [.int .i64 n]:=by
 unfold f3w at h;split at h;.unfold Program.keyLits;simp_all
 simp_all
def e7b{P:Program}{k:TypeId}(h:e7y P k=true){q:Int×Int}(h1:(Lit.int .i64 q.1).wf=true)(h2:(Lit.int .i64 q.2).wf=true):∃l,keyOf P k (kvv q)=some l:=by
 unfold e7y at h;split at h;case h_2=>grind
 rename_i fs hu;split at h;case h_2=>grind
 rename_i f0 f1 hfs;simp only[qB]at h;let⟨⟨hk,hc,hsz⟩,⟨n0,n1,o0,o1⟩,i0,i1⟩:=h;have hc:=qC hc;have o0:=qC o0;have o1:=qC o1;have hpos:∃d,P.types.size=d+1:=by simp_all
 let⟨d,hd⟩:=hpos;let⟨c0,l0⟩:=d2v (d:=d) i0 h1 (r:=[]);let⟨c1,l1⟩:=d2v (d:=d) i1 h2 (r:=[]);have hall:fs.all (λf=>f.name != "_")=true:=by rw[<-Array.all_toList];simp_all
 unfold keyOf;simp only[hk,Bool.true_and];have hform:(kvv q).formed P k=true:=by unfold kvv Value.formed;rw[hu];simp[hc]
 rw[hform,hd];unfold Program.keyLits;rw[hu];have hcells:(kvv q).cells.toList=[.int .i64 q.1,.int .i64 q.2]:=rfl;rw[hcells];simp only[hc,hall,qR,qS,and_self,if_true,hfs,mapM_cons,mapM_nil,o0,o1,c0,c1,drop_zero,take_succ_cons,take_zero,drop_succ_cons,l0,l1];exact⟨_,rfl⟩
def f4n{S:Int×Int->Prop}(K:KeyS P k S)(hn:(L.map (·.1)).Nodup)(hS:∀p∈L,S p.1)(hq:S q):(Instr.findKey k (kvv q) (L.zipIdx.map a4j)).run P w=.ok (match L[ixK L q]?with|some p=>some (ixK L q,p.2)|none=>none) w:=by
 let⟨l,hl⟩:=K.rd q hq;have hk:∀x∈L.zipIdx.map a4j,∃l,keyOf P k x.key=some l:=by intro x hx;obtain⟨y,hy,rfl⟩:=List.mem_map.1 hx;let⟨j,hj⟩:=mem_iff_getElem?.1 hy;rw[g5u]at hj;cases hL:L[j]?with|none=>grind|some p=>rw[hL]at hj;have hj:=qH hj;rw[<-hj];exact K.rd _ (hS p (qE hL))
 rcases K.law.find w hl (L.zipIdx.map a4j) hk with⟨h1,h2⟩|⟨j,e0,h1,h2,h3⟩
 .have:L[ixK L q]?=none:=by
   by_cases hlt:ixK L q<L.length;.let⟨v,hv⟩:=e8a L q hlt;have hm:=qE (by rw[b8f,hv];rfl);exact absurd rfl (h2 _ hm)
   grind
  grind
 .rw[h1];rw[b8f]at h2;cases hL:L[j]?with|none=>grind|some p=>rw[hL]at h2;have h2:=qH h2;let⟨pk,pv⟩:=p;have hpk:pk=q:=g5m (by rw[<-h2]at h3;exact h3);subst hpk;rw[e32 L pk j pv hn hL,hL,<-h2];rfl
def c8r{α:Type}{f:α->α}:∀(l:O α)(j:Nat),(∀x,l[j]?=some x->f x=x)->l.modify j f=l|[],_,_=>by simp|x::r,0,h=>by simp_all|x::r,j+1,h=>by rw[modify_succ_cons,c8r r j λy hy=>h y (by simp_all)]
def d8v{S:Int×Int->Prop}(K:KeyS P k S)(ht:P.underlying t=some (.map k e))(hz:(zeroValue e).run P w=.ok z w)(hb:w.heap[b]?=some (c00 L))(hn:(L.map (·.1)).Nodup)(hS:∀p∈L,S p.1)(hq:S q):∃v,(Instr.mapEntry t (.map (some b)) (kvv q)).run P w=.ok (.tuple #[v,.int .i64 (ixK L q:Int)]) {w with heap:=w.heap.setIfInBounds b (c00 (c3v L q z))}/\(c3v L q z)[ixK L q]?=some (q,v):=by
 have hf:=f4n (w:=w) K hn hS hq;let⟨l,hl⟩:=K.rd q hq;have hc:=K.law.check w false hl;have hst:=K.law.stays w hl;have hb':=hb;have hg:(getObj b).run P w=.ok (.map (L.zipIdx.map a4j).toArray L.length) w:=MapKept.run_getObj_map hb';have hs:∀o,(setObj b o).run P w=.ok () {w with heap:=w.heap.setIfInBounds b o}:=λo=>MapKept.run_setObj_map o hb';let⟨v,hv,hcase⟩:=g3p L q z;refine⟨v,?_,hv⟩;rcases hcase with⟨h1,h2⟩|⟨h1,h2⟩
 .rw[h2]at hf;have hek:((L.zipIdx.map a4j).toArray[ixK L q]?)=some (a4j ((q,v),ixK L q)):=by rw[getElem?_toArray,b8f,h2];rfl
  have hmod:(L.zipIdx.map a4j).toArray.modify (ixK L q) (λx=>{x with key:=kvv q})=(L.zipIdx.map a4j).toArray:=by rw[modify_toArray,c8r];intro x hx;rw[b8f,h2]at hx;have hx:=qH hx;rw[<-hx];rfl
  have hee:c3v L q z=L:=by unfold c3v;grind
  rw[hee];have hst2:(Instr.keyThatStays ((Option.map (λx=>x.key) (some (a4j ((q,v),ixK L q)))).getD (kvv q)) (kvv q)).run P w=.ok (kvv q) w:=hst;simp only[Instr.mapEntry,Sem.run_bind,run_underlying ht,hg,hc,hf,Result.andThen_ok,hek,hst2,hmod,hs,Sem.run_pure];rfl
 .have hnone:L[ixK L q]?=none:=getElem?_eq_none (by omega);rw[hnone]at hf;have hee:c3v L q z=L++[(q,z)]:=by unfold c3v;grind
  rw[hee,h2];have hpush:(L.zipIdx.map a4j).toArray.push {key:=kvv q,val:=z,born:=L.length}=((L++[(q,z)]).zipIdx.map a4j).toArray:=by simp[zipIdx_append,a4j]
  simp only[Instr.mapEntry,Sem.run_bind,run_underlying ht,hg,hc,hf,Result.andThen_ok,hz,hs,Sem.run_pure,hpush];rw[h1];simp[c00];rfl
def d0x{v u:A5}{j:Nat}(hb:w.heap[b]?=some (c00 L))(hj:L[j]?=some (q,v)):(Instr.entryStore t (.map (some b)) (.int .i64 (j:Int)) u).run P w=.ok () {w with heap:=w.heap.setIfInBounds b (c00 (L.set j (q,u)))}:=by
 have hb':=hb;have hg:(getObj b).run P w=.ok (.map (L.zipIdx.map a4j).toArray L.length) w:=MapKept.run_getObj_map hb';have hs:∀o,(setObj b o).run P w=.ok () {w with heap:=w.heap.setIfInBounds b o}:=λo=>MapKept.run_setObj_map o hb';have hlt:=(qD.1 hj).1;have hfi:(L.zipIdx.map a4j).toArray.findIdx? (λx=>((x.born:Nat):Int)==((j:Nat):Int))=some j:=by
  rw[findIdx?_toArray,findIdx?_eq_some_iff_getElem];refine⟨by simp_all,?_,λi hi=>?_⟩;.simp[a4j]
  .simp[a4j];omega
 have hmod:(L.zipIdx.map a4j).toArray.modify j (λx=>{x with val:=u})=((L.set j (q,u)).zipIdx.map a4j).toArray:=by
  rw[modify_toArray];congr 1;apply ext_getElem?;intro i;rw[getElem?_modify,b8f,b8f,getElem?_set];by_cases hi:j=i;.subst hi;rw[if_pos hlt,hj];simp[a4j]
  simp_all
 have ha:(asInt (.int .i64 (j:Int))).run P w=.ok (j:Int) w:=rfl;simp only[Instr.entryStore,Sem.run_bind,hg,Result.andThen_ok,ha,hfi,hmod,hs];simp[c00]
def itV(b n:Nat)(s:O Nat):Obj:=.mapIter (some b) n s.toArray n
def f08(ht:P.underlying t=some (.map k e))(hb:w.heap[b]?=some (c00 L)):(Instr.range t (.map (some b))).run P w=.ok (.pointer (some ⟨w.heap.size,0,none⟩)) (w.alloc (itV b L.length [])):=by have hg:(getObj b).run P w=.ok (.map (L.zipIdx.map a4j).toArray L.length) w:=MapKept.run_getObj_map hb;simp[Instr.range,run_underlying ht,hg,Result.andThen,itV]
def f8z(L:ML)(hne:L≠[]):(L.zipIdx.map a4j).toArray.all (λx=>decide (x.born>=L.length))=false:=by cases L with|nil=>simp_all|cons p r=>simp only[all_toArray,zipIdx_cons,map_cons,all_cons,a4j];simp
def f4m(L:ML)(s:O Nat):(((L.zipIdx.map a4j).toArray.filter λx=>!s.toArray.contains x.born).filter λx=>decide (x.born<L.length))=(L.zipIdx.map a4j).toArray.filter λx=>!s.toArray.contains x.born:=by apply Array.ext';simp only[filter_toArray];rw[filter_eq_self];intro x hx;let⟨hx,_⟩:=List.mem_filter.1 hx;let⟨j,hj⟩:=mem_iff_getElem?.1 hx;rw[b8f]at hj;cases hL:L[j]?with|none=>grind|some p=>rw[hL]at hj;have hj:=qH hj;rw[<-hj];exact decide_eq_true (qD.1 hL).1
def f5e(L:ML)(s:O Nat):(((L.zipIdx.map a4j).toArray.filter λx=>!s.toArray.contains x.born).filter λx=>decide (x.born>=L.length))=#[]:=by apply Array.ext';simp only[filter_toArray];rw[filter_eq_nil_iff];intro x hx;let⟨hx,_⟩:=List.mem_filter.1 hx;let⟨j,hj⟩:=mem_iff_getElem?.1 hx;rw[b8f]at hj;cases hL:L[j]?with|none=>grind|some p=>rw[hL]at hj;have hj:=qH hj;have:=(qD.1 hL).1;rw[<-hj];simp[a4j];omega
def f3h{bi:Nat}{s:O Nat}{ty:TypeId}(hi:w.heap[bi]?=some (itV b L.length s))(hb:w.heap[b]?=some (c00 L)):((∀j,j<L.length->j∈s)/\(Instr.next (.pointer (some ⟨bi,0,none⟩)) false ty).run P w=.ok (.tuple #[.bool false]) w)\/∃j q v wd,L[j]?=some (q,v)/\j∉s/\(wd.heap=w.heap/\Ext noG w wd)/\(Instr.next (.pointer (some ⟨bi,0,none⟩)) false ty).run P w=.ok (.tuple #[.bool true,kvv q,v]) {wd with heap:=wd.heap.setIfInBounds bi (itV b L.length (s++[j]))}:=by
 have hi':w.heap[bi]?=some (.mapIter (some b) L.length s.toArray L.length):=hi;have hg:(getObj bi).run P w=.ok (.mapIter (some b) L.length s.toArray L.length) w:=by simp[getObj,Sem.run,hi']
 have hg2:(getObj b).run P w=.ok (.map (L.zipIdx.map a4j).toArray L.length) w:=MapKept.run_getObj_map hb;have hun:(!s.toArray.isEmpty&&!(L.zipIdx.map a4j).toArray.isEmpty&&(L.zipIdx.map a4j).toArray.all (λx=>decide (x.born>=L.length)))=false:=by
  by_cases hne:L=[];.simp_all
  .rw[f8z L hne,Bool.and_false]
 generalize hleft:((L.zipIdx.map a4j).toArray.filter λx=>!s.toArray.contains x.born)=left at*;have hold:=f4m L s;have hnew:=f5e L s;rw[hleft]at hold hnew;have hmem:∀x∈left.toList,∃j q v,L[j]?=some (q,v)/\j∉s/\x=a4j ((q,v),j):=by intro x hx;rw[<-hleft]at hx;simp only[filter_toArray]at hx;let⟨hx,hs⟩:=List.mem_filter.1 hx;let⟨j,hj⟩:=mem_iff_getElem?.1 hx;rw[b8f]at hj;cases hL:L[j]?with|none=>rw[hL]at hj;cases hj|some p=>rw[hL]at hj;have hj:=qH hj;refine⟨j,p.1,p.2,hL,?_,hj.symm⟩;rw[<-hj]at hs;simpa[a4j]using hs
 cases hl:left.toList with|nil=>
   have hle:=Array.toList_eq_nil_iff.1 hl;subst hle;refine .inl ⟨λj hj=>?_,?_⟩
   .by_cases hjs:j∈s;.omega
    .have:a4j (L[j],j)∈(#[]:Array MapEntry).toList:=by rw[<-hleft];simp only[filter_toArray];refine List.mem_filter.2 ⟨qE (by rw[b8f,qG hj];rfl),?_⟩;simpa[a4j]using hjs
     cases this
   .simp only[Instr.next,Sem.run_bind,hg,hg2,Result.andThen_ok,hun,hleft,hold,hnew];simp[choose,Sem.run,Question.forced,Question.cut]|cons x r=>
   have hne:left.isEmpty=false:=by grind
   right;have hset:∀(wd:World)(o:Obj),wd.heap=w.heap/\Ext noG w wd->(setObj bi o).run P wd=.ok () {wd with heap:=wd.heap.setIfInBounds bi o}:=by intro wd o hwd;simp[setObj,Sem.run,hwd.1,hi']
   have hpos:0<left.size:=by rw[<-Array.length_toList,hl];simp
   have fin:∀(i:Nat)(wd:World),i<left.size->(wd.heap=w.heap/\Ext noG w wd)->(choose (.mapNext left.size)).run P w=.ok i wd->∃j q v wd,L[j]?=some (q,v)/\j∉s/\(wd.heap=w.heap/\Ext noG w wd)/\(Instr.next (.pointer (some ⟨bi,0,none⟩)) false ty).run P w=.ok (.tuple #[.bool true,kvv q,v]) {wd with heap:=wd.heap.setIfInBounds bi (itV b L.length (s++[j]))}:=by
    intro i wd hilt hwd hch;let⟨j,q,v,h1,h2,h3⟩:=hmem left[i] (by simp);refine⟨j,q,v,wd,h1,h2,hwd,?_⟩;have hget:((left++#[]).map some)[i]?=some (some left[i]):=by simp[hilt]
    have hsz:(#[]++(left++#[]).map some).size=left.size:=by simp
    simp only[Instr.next,Sem.run_bind,hg,hg2,Result.andThen_ok,hun,hleft,hold,hnew,hne,qM,if_false,hsz,hch];simp only[Array.empty_append,hget,Sem.run_bind,h3,a4j];have hpush:s.toArray.push j=(s++[j]).toArray:=by simp
    rw[hpush,hset wd _ hwd];rfl
   by_cases h1:left.size<=1;.exact fin 0 w hpos ⟨rfl,Ext.refl _ _⟩ (by rw[run_choose,if_pos (by simp[Question.forced,h1])])
   .exact fin ((Question.mapNext left.size).cut (w.tape w.drawn (.mapNext left.size))) {w with drawn:=w.drawn+1} (Nat.mod_lt _ hpos) ⟨rfl,⟨rfl,rfl,rfl,Nat.le_refl _,λ_ _ _=>rfl⟩⟩ (by rw[run_choose,if_neg (by simp[Question.forced,h1])])
def f0x{bi j:Nat}{s:O Nat}{v:A5}(hi:w.heap[bi]?=some (itV b L.length (s++[j])))(hb:w.heap[b]?=some (c00 L))(hj:L[j]?=some (q,v)):(Instr.entry (.pointer (some ⟨bi,0,none⟩))).run P w=.ok (.tuple #[kvv q,v]) w:=by
 have hi':w.heap[bi]?=some (.mapIter (some b) L.length (s++[j]).toArray L.length):=hi;have hg:(getObj bi).run P w=.ok (.mapIter (some b) L.length (s++[j]).toArray L.length) w:=by simp[getObj,Sem.run,hi']
 have hg2:(getObj b).run P w=.ok (.map (L.zipIdx.map a4j).toArray L.length) w:=MapKept.run_getObj_map hb;have hlt:=(qD.1 hj).1;have hbk:(s++[j]).toArray.back?=some j:=by simp
 have hfi:(L.zipIdx.map a4j).toArray.find? (λx=>x.born==j)=some (a4j ((q,v),j)):=by
  rw[find?_toArray,find?_eq_some_iff_getElem];refine⟨by simp[a4j],j,by simp_all,?_,λi hi=>?_⟩;.simp_all
  .simp[a4j];omega
 simp [Instr.entry,Sem.run_bind,hg,hg2,Result.andThen_ok,hbk,hfi];simp[a4j]
end
abbrev nilS:A5:=.slice none 0 0
section
variable {β:Type} {tE:TypeId} {cells:β -> O A5} {n:Nat} {bm B:Nat} {w w':World} {V:ML} {L:O ((Int×Int)×O β)} {P:Program}
structure GrpI(tE:TypeId)(cells:β->O A5)(n:Nat)(bm B:Nat)(w:World)(V:ML)(L:O ((Int×Int)×O β)):Prop where
 obj:w.heap[bm]?=some (c00 V)keys:V.map (·.1)=L.map (·.1)nd:(V.map (·.1)).Nodup
 own:∀(j:Nat)q v s,V[j]?=some (q,v)->L[j]?=some (q,s)->PL.Own B tE n cells w v s
 dist:∀(i j:Nat)qi vi qj vj b,i≠j->V[i]?=some (qi,vi)->V[j]?=some (qj,vj)->vi.ownBlock=some b->vj.ownBlock≠some b
 lt:bm<B
def d45{α α':Type}:∀{V:O ((Int×Int)×α)}{L:O ((Int×Int)×α')}(k:Int×Int),V.map (·.1)=L.map (·.1)->ixK V k=ixK L k|[],[],_,_=>rfl|[],_::_,_,h=>by grind|_::_,[],_,h=>by grind|p::V,q::L,k,h=>by simp [map_cons,List.cons.injEq]at h;unfold ixK;rw[h.1,d45 k h.2]
def c7m{α α':Type}{V:O ((Int×Int)×α)}{L:O ((Int×Int)×α')}(h:V.map (·.1)=L.map (·.1)):V.length=L.length:=by have:=congrArg List.length h;grind
def c65{α α':Type}{V:O ((Int×Int)×α)}{L:O ((Int×Int)×α')}(h:V.map (·.1)=L.map (·.1)){j:Nat}{q:Int×Int}{v:α}(hj:V[j]?=some (q,v)):∃s,L[j]?=some (q,s):=by
 have h1:(V.map (·.1))[j]?=some q:=by rw[getElem?_map,hj];rfl
 rw[h,getElem?_map]at h1;cases hL:L[j]?with|none=>simp_all|some p=>rw[hL]at h1;grind
def e8w{α α':Type}{V:O ((Int×Int)×α)}{L:O ((Int×Int)×α')}(h:V.map (·.1)=L.map (·.1))(k:Int×Int)(z:α)(z':α'):(c3v V k z).map (·.1)=(c3v L k z').map (·.1):=by unfold c3v;rw[d45 k h,c7m h];grind
def g2r{α:Type}{V:O ((Int×Int)×α)}(h:(V.map (·.1)).Nodup)(k:Int×Int)(z:α):((c3v V k z).map (·.1)).Nodup:=by
 unfold c3v;split;.omega
 .rename_i hk;rw[map_append,nodup_append];refine⟨h,by simp,λa ha b hb=>?_⟩;obtain⟨q,hq,rfl⟩:=List.mem_map.1 ha;simp [map_cons,map_nil,qF]at hb;rw[hb];exact e2n V k hk q hq
def c2j{α:Type}{V:O ((Int×Int)×α)}{k:Int×Int}{z:α}{j:Nat}{p:(Int×Int)×α}(h:(c3v V k z)[j]?=some p):V[j]?=some p\/(j=V.length/\p=(k,z)/\ixK V k=V.length):=by
 unfold c3v at h;split at h;.simp_all
 .rcases Nat.lt_trichotomy j V.length with hj|hj|hj;.rw[getElem?_append_left hj]at h;simp_all
  .subst hj;simp at h;exact .inr ⟨rfl,h.symm,by have:=e9o V k;omega⟩
  .grind
def GrpI.ext{G:Nat->Prop}(h:GrpI tE cells n bm B w V L)(hE:Ext G w w')(hG:∀b,G b->b<B/\b≠bm):GrpI tE cells n bm B w' V L:=⟨(hE.block bm (qN.1 h.obj).1 λhg=>(hG bm hg).2 rfl).trans h.obj,h.keys,h.nd,λj q v s h1 h2=>(h.own j q v s h1 h2).ext hE λb hb hg=>by have:=((h.own j q v s h1 h2).lt hb).1;grind,h.dist,h.lt⟩
def GrpI.exn(h:GrpI tE cells n bm B w V L)(hE:Ext noG w w'):GrpI tE cells n bm B w' V L:=h.ext hE λb hb=>hb.elim
def GrpI.ent(h:GrpI tE cells n bm B w V L)(k:Int×Int):GrpI tE cells n bm B {w with heap:=w.heap.setIfInBounds bm (c00 (c3v V k nilS))} (c3v V k nilS) (c3v L k []):=by
 have hlt:=(qN.1 h.obj).1;refine⟨by simp_all,e8w h.keys k _ _,g2r h.nd k _,λj q v s h1 h2=>?_,λi j qi vi qj vj b hne h1 h2 hb=>?_,h.lt⟩
 .have fin:∀{v:A5}{s:O β},PL.Own B tE n cells w v s->PL.Own B tE n cells {w with heap:=w.heap.setIfInBounds bm (c00 (c3v V k nilS))} v s:=λhO=>hO.ext ⟨rfl,rfl,rfl,by simp,λi hi hg=>by have:bm≠i:=λe=>hg e.symm;simp_all⟩ λb hb hg=>by have:=(hO.lt hb).1;have:=h.lt;omega
  rcases c2j h1 with h1|⟨e1,e2,e3⟩
  .rcases c2j h2 with h2|⟨e1,e2,e3⟩;.exact fin (h.own j q v s h1 h2)
   .have:=(qD.1 h1).1;have:=c7m h.keys;omega
  .rcases c2j h2 with h2|⟨_,e2',e3'⟩;.have:=(qD.1 h2).1;have:=c7m h.keys;omega
   .cases e2;cases e2';exact .inl ⟨rfl,rfl⟩
 .rcases c2j h1 with h1|⟨e1,e2,e3⟩
  .rcases c2j h2 with h2|⟨e1,e2,e3⟩;.exact h.dist i j qi vi qj vj b hne h1 h2 hb
   .cases e2;intro hh;cases hh
  .cases e2;cases hb
def GrpI.store(h:GrpI tE cells n bm B w V L){w2:World}{j:Nat}{k:Int×Int}{v v1:A5}{s s1:O β}(hV:V[j]?=some (k,v))(hL:L[j]?=some (k,s))(hE:Ext (λb=>v.ownBlock=some b) w w2)(hO:PL.Own B tE n cells w2 v1 s1)(hb:∀b,v1.ownBlock=some b->v.ownBlock=some b\/w.heap.size<=b):GrpI tE cells n bm B {w2 with heap:=w2.heap.setIfInBounds bm (c00 (V.set j (k,v1)))} (V.set j (k,v1)) (L.set j (k,s1)):=by
 have hbm:=(qN.1 h.obj).1;have hbm2:=Nat.lt_of_lt_of_le hbm hE.size;have hjV:=(qD.1 hV).1;have hjL:=(qD.1 hL).1;have up:∀{v:A5}{s:O β},PL.Own B tE n cells w2 v s->PL.Own B tE n cells {w2 with heap:=w2.heap.setIfInBounds bm (c00 (V.set j (k,v1)))} v s:=λhO=>hO.ext ⟨rfl,rfl,rfl,by simp,λi hi hg=>by have:bm≠i:=λe=>hg e.symm;simp_all⟩ λb hb hg=>by have:=(hO.lt hb).1;have:=h.lt;omega
 have setV:∀{α:Type}(X:O ((Int×Int)×α))(x:(Int×Int)×α),X[j]?=some x->∀y,(X.set j (x.1,y)).map (·.1)=X.map (·.1):=λX x hx y=>by
  rw[map_set];apply ext_getElem?;intro i;rw[getElem?_set];split;.rename_i e;subst e;let⟨h1,h2⟩:=qD.1 hx;simp_all
  .rfl
 have key:=setV V (k,v) hV v1;have key2:=setV L (k,s) hL s1;refine⟨by simp[hbm2],by rw[key,key2,h.keys],by rw[key];exact h.nd,λi q u t h1 h2=>?_,λi i' qi vi qj vj b hne h1 h2 hvb=>?_,h.lt⟩
 .rw[getElem?_set]at h1 h2;by_cases e:j=i;.subst e;rw[if_pos rfl,if_pos hjV]at h1;rw[if_pos rfl,if_pos hjL]at h2;cases h1;cases h2;exact up hO
  .rw[if_neg e]at h1 h2;exact up ((h.own i q u t h1 h2).ext hE λb hb hg=>h.dist j i k v q u b e hV h1 hg hb)
 .rw[getElem?_set]at h1 h2;by_cases e:j=i
  .subst e;rw[if_pos rfl,if_pos hjV]at h1;rw[if_neg hne]at h2;cases h1;rcases hb b hvb with hh|hh;.exact h.dist j i' k v qj vj b hne hV h2 hh
   .intro hh2;let⟨t,ht⟩:=c65 h.keys h2;have:=((h.own i' qj vj t h2 ht).lt hh2).2;omega
  .rw[if_neg e]at h1;by_cases e':j=i'
   .subst e';rw[if_pos rfl,if_pos hjV]at h2;cases h2;intro hh2;rcases hb b hh2 with hh|hh;.exact h.dist i j qi vi k v b (Ne.symm e) h1 hV hvb hh
    .let⟨t,ht⟩:=c65 h.keys h1;have:=((h.own i qi vi t h1 ht).lt hvb).2;omega
   .rw[if_neg e']at h2;exact h.dist i i' qi vi qj vj b hne h1 h2 hvb
def a0k.val{o:Oper}{η:Operand->A5}{w w':World}{v:A5}{K:A5->World->Prop}(hr:(execOp η o).run P w=.ok (.value v) w')(h:K v w'):a0k P o η w K:=by unfold a0k;simp_all
def a0k.skip{o:Oper}{η:Operand->A5}{w w':World}{K:A5->World->Prop}(hr:(execOp η o).run P w=.ok .skip w')(h:K undef w'):a0k P o η w K:=by unfold a0k;simp_all
def f7f{S:Int×Int->Prop}{tM tK tS ty0 ty1 ty2 ty3 ty4:TypeId}{p0 p1 p2 p3 p4:String}{a0 a1 a2 a3 a4:Array Edge}{bytes tm tk tx te t0 t1 t2:Nat}{ρ:Nat->A5}{k:Int×Int}{x:β}{xv:A5}{K:(Nat->A5)->World->Prop}(hKS:KeyS P tK S)(htM:P.underlying tM=some (.map tK tS))(htS:P.underlying tS=some (.slice tE))(hz:∀w,(zeroValue tS).run P w=.ok nilS w)(hi:(P.info? tE).map (λi=>(i.zero.map (·.cells.size),i.size,i.bytes))=some (some n,n,bytes))(hn:∀x,(cells x).length=n)(h1:∀x,∀u∈cells x,u.oneCell'=true)(hpos:0<n)(hbpos:0<bytes)(hb:∀p∈L,(p.2.length+1)*bytes<=140737488355328)(hb1:bytes<=140737488355328)(h:GrpI tE cells n bm B w V L)(hS:∀p∈V,S p.1)(hSk:S k)(hB:B<=w.heap.size)(hm:ρ tm=.map (some bm))(hk:ρ tk=kvv k)(hx:ρ tx=xv)(hxs:PL.Own 0 tE n cells w xv [x])(hxb:∀b,xv.ownBlock=some b->b≠bm/\∀p∈V,p.2.ownBlock≠some b)(hne:te≠tm/\te≠tx/\te≠t0/\te≠t1/\t0≠tm/\t0≠tx/\t1≠tm/\t2≠tm/\t2≠t1)(hK:∀ρ' w',GrpI tE cells n bm B w' (c3v V k nilS|>.set (ixK V k) (k,ρ' t1)) (f7i L k x)->Ext (λb=>b=bm\/B<=b) w w'->(∀t,t≠te->t≠t0->t≠t1->t≠t2->ρ' t=ρ t)->K ρ' w'):c7o P [⟨some te,.mapEntry tM (.tmp tm) (.tmp tk),ty0,p0,a0,none⟩,⟨some t0,.extract (.tmp te) 0,ty1,p1,a1,none⟩,⟨some t1,.call ⟨.builtin .append,#[.tmp t0,.tmp tx],#[tS,tS]⟩,ty2,p2,a2,none⟩,⟨some t2,.extract (.tmp te) 1,ty3,p3,a3,none⟩,⟨none,.entryStore tM (.tmp tm) (.tmp t2) (.tmp t1),ty4,p4,a4,none⟩] K ρ w:=by
 let⟨n1,n2,n3,n4,n5,n6,n7,n8,n9⟩:=hne;let⟨v,hrun,hv⟩:=d8v hKS htM (hz w) h.obj h.nd hS hSk;have h2:=h.ent k;generalize hw1:({w with heap:=w.heap.setIfInBounds bm (c00 (c3v V k nilS))}:World)=w1 at*;have hE1:Ext (λb=>b=bm) w w1:=by rw[<-hw1];exact⟨rfl,rfl,rfl,by simp,λi hi hg=>by have:bm≠i:=λe=>hg e.symm;simp[this]⟩
 let⟨s,hs⟩:=c65 h2.keys hv;have hOv:=h2.own _ _ _ _ hv hs;refine⟨rfl,a0k.val (v:=.tuple #[v,.int .i64 (ixK V k:Int)]) (w':=w1) (by simp[execOp,ev,hm,hk,hrun,Result.andThen]) ?_⟩;refine⟨rfl,a0k.val (v:=v) (w':=w1) (by simp[execOp,ev,b20,upd,Instr.extract,Result.andThen]) ?_⟩;have hxs1:=hxs.ext hE1 λb hb hg=>(hxb b hb).1 hg;have hlen:s.length<=0\/∃p∈L,p.2=s:=by
  rcases c2j hs with hh|⟨_,hh,_⟩;.exact .inr ⟨_,qE hh,rfl⟩
  .cases hh;exact .inl (Nat.le_refl _)
 let⟨v1,w2,hr,hO1,hE2,hfr⟩:=d1y (ty:=ty2) hn h1 htS hi hpos hbpos hOv ⟨noG,hxs1.rep λ_ _ hh=>hh⟩ (by
  rcases hlen with hh|⟨p,hp,hh⟩
  .have:s.length=0:=by omega
   simp [this,qR,qS];omega
  .have:=hb p hp;rw[hh]at this;omega) (Nat.le_trans hB hE1.size);refine⟨rfl,a0k.val (v:=v1) (w':=w2) (by simp[execOp,resolve,invoke,builtin,ev,b20,upd,hx,n2.symm,n6.symm,hr]) ?_⟩;refine⟨rfl,a0k.val (v:=.int .i64 (ixK V k:Int)) (w':=w2) (by simp[execOp,ev,b20,upd,n3,n4,Instr.extract,Result.andThen]) ?_⟩;have hobj2:=(hE2.block bm (by have:=(qN.1 h2.obj).1;omega) λhg=>by have:=(hOv.lt hg).1;have:=h.lt;omega).trans h2.obj;have hst:=d0x (P:=P) (t:=tM) (u:=v1) hobj2 hv;refine⟨rfl,a0k.skip (w':={w2 with heap:=w2.heap.setIfInBounds bm (c00 ((c3v V k nilS).set (ixK V k) (k,v1)))}) (by simp[execOp,ev,b20,upd,hm,n1.symm,n5.symm,n7.symm,n8.symm,n9.symm,hst,Result.andThen]) ?_⟩;have hg:f7i L k x=(c3v L k []).set (ixK V k) (k,s++[x]):=by unfold f7i;rw[<-d45 k h.keys,hs]
 refine hK _ _ ?_ ?_ ?_
 .rw[hg];have:b20 (b20 (b20 (b20 (b20 ρ (some te) (.tuple #[v,.int .i64 (ixK V k:Int)])) (some t0) v) (some t1) v1) (some t2) (.int .i64 (ixK V k:Int))) none undef t1=v1:=by simp[b20,upd,n9.symm]
  rw[this];exact h2.store hv hs hE2 hO1 hfr
 .refine(hE1.mono λb hb=>.inl hb).trans ((hE2.mono λb hb=>.inr (hOv.lt hb).1).trans ?_);exact⟨rfl,rfl,rfl,by simp,λi hi hg=>by have:bm≠i:=λe=>hg (.inl e.symm);simp[this]⟩
 .intro t e1 e2 e3 e4;simp[b20,upd,e1,e2,e3,e4]
end
section
variable {P:Program} {U:Uni}
def e4b(hU:UOK U){f:FuncId}{fe:Fent U}(hS:Spec P f fe){xs:Args U fe.s.ps}{b:fe.B}(hF:fe.F xs=some b){w:World}(ht:U.tab w/\∀b,U.tb b->b<w.heap.size){us:O A5}(hl:us.length=fe.s.ps.length)(hm:(b4o fe.s.ps&&Nat.beq (npK fe.s.ps) fe.s.ps.length)=true)(is:O (O Nat))(his:∀i∈is,i=[])(hA:∀Z':Nat->Prop,(∀b,b<w.heap.size->Z' b)->ARs (⟨[],[],0⟩:U.St) (λ_=>undef) (cz Z' w) us fe.s.ps us xs is):Calls P f us.toArray w λe w'=>∃vs Z',e=.returned (g6p vs)/\Ext noG w w'/\RRs (cz Z' w') fe.s.rs (fe.wr b).1 vs:=by
 have h0:Rel (⟨w,noG,λb=>b<w.heap.size,λ_=>False,λ_=>undef⟩:Env) (λb=>b<w.heap.size) (λ_=>undef) (⟨[],[],0⟩:U.St) (λ_=>undef) w:=⟨λ_=>trivial,λ_=>trivial,λ_ _ h=>h.elim,λ_ _ _ _ h=>h.elim,λ_ h=>h,λ_ h=>.inl h,λ_ h=>h,Ext.refl _ _,λ_ h=>h.elim,ht.1,λb hb=>⟨ht.2 b hb,λh=>h.elim⟩⟩;have hap:c6k (is++[([]:O (Nat×U.MC)).map (·.1)])=true:=by clear hA;induction is with|nil=>rfl|cons i r ih=>obtain rfl:=his i (by simp);show(true&&c6k (r++[[]]))=true;rw[Bool.true_and];exact ih λi hi=>his i (qJ _ hi)
 simp only[qB]at hm;have htk:us.take (npK fe.s.ps)=us:=by rw[qC hm.2,<-hl,take_length]
 have h1:=f2x hU h0 (ρs:=c7a us) hm.1 (λ_ _=>rfl) (λ_ h=>by cases h) (λZ' hz _=>hA Z' hz) hap (λj v hv=>by simp[c7a,hv]);have hS2:=hS xs b hF _ _ w us hl (by rw[htk];exact h1);rw[htk]at hS2;refine hS2.mono λe w'⟨u,he,⟨Z',vs,ua,hu,_,_,hE,_,_,hR,_⟩⟩=>⟨vs,Z',by rw[he,hu],hE.mono λb hb=>?_,hR⟩;let⟨i,hi,id,hid,_⟩:=hb;rw[his i hi]at hid;cases hid
end
end Go.SX
namespace Go.SX
open Go Go.PL Go.ChangeShapes Go.WideShapes Go.Deep Go.RowKit
section
variable {P:Program} {U:Uni}
def RdQ(P:Program)(U:Uni)(t:TypeId)(c:U.C)(q:U.T c->Prop):Prop:=∀{H:Type}(enc:TypeId×A5->H)(w:World)(base:Nat)(spare:Nat->Bool)(held:Bool)(fuel:Nat)(cs:O A5)(r:DataW H×O MemPlace),DataW.trod enc P w base spare held fuel t cs=some r->∃x:U.T c,q x/\(Rp c).rep noG w cs x
def RdT(P:Program)(U:Uni)(t:TypeId)(c:U.C):Prop:=RdQ P U t c λ_=>True
def RdA(P:Program)(U:Uni)(t:TypeId)(S:U.AV->Prop):Prop:=∀{H:Type}(enc:TypeId×A5->H)(w:World)(base:Nat)(spare:Nat->Bool)(held:Bool)(fuel:Nat)(cs:O A5)(r:DataW H×O MemPlace),DataW.trod enc P w base spare held fuel t cs=some r->∃a,S a/\e8 Rp noG w a cs
def isI(k:IntKind)(a:U.AV):Prop:=∃z,a=.int k z
def isB(a:U.AV):Prop:=∃z,a=.bool z
def RdA.int{t:TypeId}{k:IntKind}(ht:P.underlying t=some (.int k)):RdA P U t (isI k):=by intro H enc w base spare held fuel cs r h;obtain⟨n,rfl,rfl,hw⟩:=DataW.trod_int ht h;exact⟨.int k n,⟨n,rfl⟩,rfl⟩
def RdA.bool{t:TypeId}(ht:P.underlying t=some .bool):RdA P U t isB:=by intro H enc w base spare held fuel cs r h;obtain⟨b,rfl,rfl⟩:=DataW.trod_bool ht h;exact⟨.bool b,⟨b,rfl⟩,rfl⟩
instance(c:U.C):Inhabited (A3 (U.T c)):=⟨none⟩
def g4n{α:Type}{R:TyR α}{G:Nat->Prop}{w:World}{v:A5}{l:O α}(h:k9 R G w v l):l.length<=9223372036854775807:=by let⟨a,cap,_,h1,h2⟩:=h.shape;simp [maxLen]at h2;omega
def f7y{t e:TypeId}{c:U.C}(hI:RdT P U e c)(hC:P.cellsOf e=U.n c)(hpos:0<U.n c)(ht:P.underlying t=some (.slice e)){H:Type}{enc:TypeId×A5->H}{w:World}{base:Nat}{spare:Nat->Bool}{held:Bool}{fuel:Nat}{cs:O A5}{r:DataW H×O MemPlace}(h:DataW.trod enc P w base spare held fuel t cs=some r):∃(v:A5)(l:O (U.T c)),cs=[v]/\k9 (Rp c) noG w v l:=by
 rcases open_slice ht h with⟨h1,_⟩|⟨a',len,cap,m,n',D,Pl,h1,hb,hl,hm,hmm,hx,hi⟩;.exact⟨_,[],h1,.inl ⟨rfl,rfl⟩⟩
 .have hlm:len<=m:=by grind
  let⟨X,hX⟩:=choose_lt (n:=len) (p:=λi x=>∃y cs',x=some y/\w.cells? base (a'.add (i*U.n c)) (U.n c)=some cs'/\(Rp c).rep noG w cs' y) (λi hil=>by let⟨cs',h1,h2⟩:=hi i (by omega);let⟨x,_,hxe⟩:=hI _ _ _ _ _ _ _ _ h2;rw[hC]at h1;exact⟨some x,x,cs',rfl,h1,hxe⟩);have key:∀k,k<=len->∃l:O (U.T c),l.length=k/\∀i x,l[i]?=some x->∃cs',w.cells? base (a'.add (i*U.n c)) (U.n c)=some cs'/\(Rp c).rep noG w cs' x:=by intro k;induction k with|zero=>intro _;exact⟨[],rfl,λi x hx=>by simp at hx⟩|succ k ih=>
     intro hk;let⟨l,h2,h3⟩:=ih (by omega);let⟨y,cs',_,h4,h5⟩:=hX k (by omega);refine⟨l++[y],by simp[h2],λi x hx=>?_⟩;by_cases hik:i<k;.rw[getElem?_append_left (by omega)]at hx;exact h3 i x hx
     .rw[getElem?_append_right (by omega)]at hx;have h0:i=k:=by have:=(qD.1 hx).1;simp at this;omega
      subst h0;rw[h2]at hx;simp at hx;subst hx;exact⟨cs',h4,h5⟩
  obtain⟨l,h2,h3⟩:=key len (Nat.le_refl _);refine⟨_,l,h1,.inr ⟨a',cap,by rw[h2],by omega,hm,λi x hx=>?_⟩⟩;let⟨cs',h4,h5⟩:=h3 i x hx;let⟨hcl0,hcl,hcs⟩:=World.cells?_some h4;have hln:cs'.length=U.n c:=(Rp c).len h5;refine⟨cs',h5,?_,λh=>h,λj v hj=>?_⟩;.have h0:=hcs 0 hpos;have:cs'[0]?=some (cs'[0]'(by omega)):=qG _;rw[this]at h0;have:=f0a h0;rwa[a2h,a2h]at this
  .have hjn:j<U.n c:=by rw[<-hln];exact(qD.1 hj).1
   exact(hcs j hjn).trans hj
def RdT.one(hU:UOK U){t:TypeId}{c:U.C}{S:U.AV->Prop}(h:RdA P U t S)(hmk:∀a,S a->∃x:U.T c,U.flds c x=[a]):RdT P U t c:=by intro H enc w base spare held fuel cs r hh;let⟨a,hS,hr⟩:=h enc w base spare held fuel cs r hh;let⟨x,hx⟩:=hmk a hS;have:=c96 hU (css:=[cs]) (by rw[hx];exact⟨hr,trivial⟩);grind
def szS(P:Program):O Field->Nat|[]=>0|f::fs=>P.cellsOf f.type+szS P fs
def h07(P:Program):Nat->O Field->Bool|_,[]=>true|o,f::fs=>Nat.beq f.offset o&&h07 P (o+P.cellsOf f.type) fs
def RdL(P:Program)(U:Uni):O Field->O (U.AV->Prop)->Prop|[],[]=>True|f::fs,S::Ss=>RdA P U f.type S/\RdL P U fs Ss|_,_=>False
def RdQ.struct(hU:UOK U){t:TypeId}{c:U.C}{q:U.T c->Prop}{fs:Array Field}{Ss:O (U.AV->Prop)}(ht:P.underlying t=some (.struct fs))(ho:h07 P 0 fs.toList=true)(hsz:P.cellsOf t=szS P fs.toList)(hL:RdL P U fs.toList Ss)(hmk:∀as,y7 (λS a=>S a) Ss as->∃x:U.T c,q x/\U.flds c x=as):RdQ P U t c q:=by
 intro H enc w base spare held fuel cs r h;let⟨xs,n,_,_,hl,hxl,hx⟩:=DataW.trod_struct ht h;have key:∀(l:O Field)(Ss:O (U.AV->Prop))(o:Nat),h07 P o l=true->RdL P U l Ss->o+szS P l=cs.length->(∀f∈l,∃y,DataW.trod enc P w base spare held n f.type ((cs.drop f.offset).take (P.cellsOf f.type))=some y)->∃as css,y7 (λS a=>S a) Ss as/\y7 (e8 Rp noG w) as css/\css.flatten=cs.drop o:=by intro l;induction l with
  |nil=>intro Ss o _ hR hlen _;cases Ss with|nil=>exact⟨[],[],trivial,trivial,by simp [szS]at hlen;grind⟩|cons _ _=>exact hR.elim
  |cons f l ih=>intro Ss o ho hR hlen hy;cases Ss with|nil=>exact hR.elim|cons S Ss=>simp only[h07,qB]at ho;have hfo:=qC ho.1;simp [szS]at hlen;let⟨as,css,g1,g2,g3⟩:=ih Ss (o+P.cellsOf f.type) ho.2 hR.2 (by omega) λf' hf'=>hy f' (qJ _ hf');let⟨y,hy1⟩:=hy f qI;let⟨a,hS,hr⟩:=hR.1 enc w base spare held n _ _ hy1;refine⟨a::as,_::css,⟨hS,g1⟩,⟨hr,g2⟩,?_⟩;rw[flatten_cons,g3,hfo,<-drop_drop,take_append_drop]
 let⟨as,css,g1,g2,g3⟩:=key fs.toList Ss 0 ho hL (by omega) λf hf=>by
  let⟨i,hi,hfi⟩:=List.mem_iff_getElem.1 hf;have hi':i<fs.size:=by omega
  have h1:=hx i f (by rw[Array.getElem?_eq_getElem hi'];simpa using hfi);rw[qG (by omega)]at h1;exact⟨_,h1⟩
 let⟨x,hq,hx⟩:=hmk as g1;have h5:=c96 hU (by rw[hx];omega);rw[g3]at h5;exact⟨x,hq,by simpa using h5⟩
def a7b{S:U.AV->Prop}{Ss:O (U.AV->Prop)}{zs:O U.AV}(h:y7 (λS a=>S a) (S::Ss) zs):∃a r,zs=a::r/\S a/\y7 (λS a=>S a) Ss r:=by cases zs with|nil=>exact h.elim|cons a r=>exact⟨a,r,rfl,h.1,h.2⟩
def f6f{zs:O U.AV}(h:y7 (λS a=>S a) ([]:O (U.AV->Prop)) zs):zs=[]:=by cases zs with|nil=>rfl|cons a r=>exact h.elim
def g6o(P:Program)(U:Uni):O TypeId->O (U.AV->Prop)->Prop|[],[]=>True|t::ts,S::Ss=>RdA P U t S/\g6o P U ts Ss|_,_=>False
def g6o.to:∀(fs:O Field)(Ss:O (U.AV->Prop)),g6o P U (fs.map (·.type)) Ss->RdL P U fs Ss|[],[],_=>trivial|_::fs,_::Ss,h=>⟨h.1,g6o.to fs Ss h.2⟩|[],_::_,h=>h.elim|_::_,[],h=>h.elim
def RdQ.str(hU:UOK U){t:TypeId}{c:U.C}{q:U.T c->Prop}{fs:Array Field}{ts:O TypeId}{Ss:O (U.AV->Prop)}(ht:P.underlying t=some (.struct fs))(ho:h07 P 0 fs.toList=true)(hsz:P.cellsOf t=szS P fs.toList)(hts:fs.toList.map (·.type)=ts)(hL:g6o P U ts Ss)(hmk:∀as,y7 (λS a=>S a) Ss as->∃x:U.T c,q x/\U.flds c x=as):RdQ P U t c q:=RdQ.struct hU ht ho hsz (g6o.to _ _ (by simp_all)) hmk
def RdP(P:Program)(U:Uni)(t:TypeId)(p:PK U.C)(q:p.T U->Prop):Prop:=∀{H:Type}(enc:TypeId×A5->H)(w:World)(b0:Nat)(spare:Nat->Bool)(held:Bool)(v:A5)(d:DataW H)(pl:O MemPlace),Value.okWide P w .any b0 t v->DataW.Trod enc P w 0 spare held t v d pl->∃x:p.T U,q x/\∀(σ:U.St)(π:Nat->A5)(all:O A5)(Z':Nat->Prop),(∀b,b<w.heap.size->Z' b)->AR σ π (cz Z' w) all p v x []
def RdP.int{t:TypeId}{c:U.C}{k:IntKind}(ht:P.underlying t=some (.int k))(hc:∀z,∃x:U.T c,(inj c x:U.AV)=.int k z):RdP P U t (.v c) λ_=>True:=by intro H enc w b0 spare held v d pl ho hd;obtain⟨n,rfl,_⟩:=open_int ht ho hd;let⟨x,hx⟩:=hc n;exact⟨x,trivial,λσ π all Z' hz=>⟨rfl,by rw[hx];rfl⟩⟩
def RdP.bool{t:TypeId}{c:U.C}(ht:P.underlying t=some .bool)(hc:∀z,∃x:U.T c,(inj c x:U.AV)=.bool z):RdP P U t (.v c) λ_=>True:=by intro H enc w b0 spare held v d pl ho hd;obtain⟨n,rfl,_⟩:=open_bool ht ho hd;let⟨x,hx⟩:=hc n;exact⟨x,trivial,λσ π all Z' hz=>⟨rfl,by rw[hx];rfl⟩⟩
def RdP.slice{t e:TypeId}{c:U.C}(ht:P.underlying t=some (.slice e))(hI:RdT P U e c)(hC:P.cellsOf e=U.n c)(hpos:0<U.n c):RdP P U t (.ls c) λl=>l.length<=9223372036854775807:=by intro H enc w b0 spare held v d pl ho⟨fuel,hd⟩;obtain⟨a,len,cap,rfl⟩:=okWide_slice ht ho;let⟨v',l,h1,h2⟩:=f7y hI hC hpos ht hd;cases h1;exact⟨l,g4n h2,λσ π all Z' hz=>⟨rfl,h2.weaken λb hb hg=>hg (hz b hb)⟩⟩
def e12(P:Program)(U:Uni):O TypeId->(ps:O (PK U.C))->(Args U ps->Prop)->Prop|[],[],q=>q ()|t::ts,p::ps,q=>∃(q1:p.T U->Prop)(q2:Args U ps->Prop),RdP P U t p q1/\e12 P U ts ps q2/\∀x xs,q1 x->q2 xs->q (x,xs)|_,_,_=>False
def e12.nil:e12 P U [] [] λ_=>True:=trivial
def e12.cons{t:TypeId}{ts:O TypeId}{p:PK U.C}{ps:O (PK U.C)}{q1:p.T U->Prop}{q2:Args U ps->Prop}(h1:RdP P U t p q1)(h2:e12 P U ts ps q2):e12 P U (t::ts) (p::ps) λx=>q1 x.1/\q2 x.2:=⟨q1,q2,h1,h2,λ_ _ a b=>⟨a,b⟩⟩
def e7d{H:Type}(enc:TypeId×A5->H)(w:World)(b0:Nat)(spare:Nat->Bool)(held:Bool):∀{ts:O TypeId}{ps:O (PK U.C)}{vs:O A5}{ds:O (DataW H)}{pl:O MemPlace}{q:Args U ps->Prop},e12 P U ts ps q->DataW.TrodAll enc P w 0 spare held ts vs ds pl->(∀(j:Nat)t v,ts[j]?=some t->vs[j]?=some v->Value.okWide P w .any b0 t v)->vs.length=ps.length/\∃xs:Args U ps,q xs/\∀(σ:U.St)(π:Nat->A5)(all:O A5)(Z':Nat->Prop),(∀b,b<w.heap.size->Z' b)->ARs σ π (cz Z' w) all ps vs xs (ps.map λ_=>[])|[],[],vs,ds,pl,q,hq,h,_=>by obtain⟨rfl,rfl,rfl⟩:=trodAll_nil h;exact⟨rfl,(),hq,λ_ _ _ _ _=>trivial⟩|t::ts,p::ps,vs,ds,pl,q,⟨q1,q2,hR1,hR2,hq⟩,h,ho=>by obtain⟨v,vs',d,ds',p1,q1,rfl,rfl,rfl,h1,h2⟩:=trodAll_cons h;let⟨x,k1,hx⟩:=hR1 enc w b0 spare held v d p1 (ho 0 t v rfl rfl) h1;let⟨hl,xs,k2,hxs⟩:=e7d enc w b0 spare held hR2 h2 λj t v ht hv=>ho (j+1) t v ht hv;exact⟨by simp[hl],(x,xs),hq x xs k1 k2,λσ π all Z' hz=>⟨hx σ π all Z' hz,hxs σ π all Z' hz⟩⟩|[],_::_,_,_,_,_,hR,_,_=>hR.elim|_::_,[],_,_,_,_,hR,_,_=>hR.elim
def c48{H:Type}{enc:TypeId×A5->H}(hl:laidOutB P=true){W W':World}{sp:Nat->Bool}:∀{ts:O TypeId}{vs:O A5}{ds:O (DataW H)}{pl:O MemPlace},(∀t∈ts,P.readableRec t=true/\t<P.types.size)->DataW.TrodAll enc P W 0 (λ_=>true) true ts vs ds pl->(∀p∈pl,W.sameAt W' p)->(∀p∈pl,sp p.block=true)->DataW.TrodAll enc P W' 0 sp true ts vs ds pl|[],vs,ds,pl,_,h,_,_=>by obtain⟨rfl,rfl,rfl⟩:=trodAll_nil h;exact trodAll_mk0|t::ts,vs,ds,pl,hr,h,h1,h2=>by obtain⟨v,vs',d,ds',p1,q1,rfl,rfl,rfl,g1,g2⟩:=trodAll_cons h;exact trodAll_cons_mk (WideElems.Trod_stays hl (hr t qI).1 (hr t qI).2 g1 (λp hp=>h1 p (mem_append_left _ hp)) λp hp=>h2 p (mem_append_left _ hp)) (c48 hl (λt ht=>hr t (qJ _ ht)) g2 (λp hp=>h1 p (mem_append_right _ hp)) λp hp=>h2 p (mem_append_right _ hp))
end
end Go.SX
namespace Go.RowKit
open Go Go.ChangeShapes Go.WideShapes
section
variable {H:Type} {enc:TypeId×A5 -> H} {P:Program}
def d42{f:Func}{s:ChangeSpec}{apart fresh handsOn again:Bool}{W W':World}{args:Array A5}{v:A5}{ds gs:O (DataW H)}{before pa pv:O MemPlace}(hW:DataW.Whole enc P f.params.toList s.vars apart W args.toList ds gs before)(hres:∀(b:Nat)(sp:Nat->Bool)(hd:Bool),DataW.TrodAll enc P W' b sp hd f.resultTypes.toList (v.resultList f.resultTypes.size) (s.fn H (ds++gs)).results [])(hargs:∀sp:Nat->Bool,(∀p∈before,sp p.block=true)->DataW.TrodAll enc P W' 0 sp true f.params.toList args.toList (s.fn H (ds++gs)).args pa)(hvars:∀sp:Nat->Bool,(∀p∈before,sp p.block=true)->DataW.TrodVars enc P W' sp s.vars (s.fn H (ds++gs)).vars pv)(hps:before=pa++pv)(hb:Below W.heap.size W W')(hok:∀(j:Nat)(t:TypeId)(r:A5),f.resultTypes[j]?=some t->(v.resultList f.resultTypes.size)[j]?=some r->Value.okWide P W' .any 0 t r):s.post enc P f apart fresh handsOn again W args v W':=by
 have hlt:=λp hp=>hW.lt p hp;have hold:∀p∈before,(λb=>decide (b<W.heap.size)) p.block=true:=λp hp=>by simpa using hlt p hp
 refine⟨ds,gs,before,[],pa,pv,hW,hres _ _ _,hargs _ hold,hvars _ hold,World.keptBut_mono (λp hp=>⟨hp,?_⟩) (hb.frame (.∈before)),λ_=>?_⟩;.rw[hps,qK]at hp;exact Or.inr hp
 .let⟨_,_,_,_,_,hz,hn⟩:=hW;refine⟨hok,_,_,([]++pa)++pv,⟨[]++pa,pv,trodAll_append (hargs _ (λ_ _=>rfl)) (hres _ _ _),hvars _ (λ_ _=>rfl),rfl,?_,?_⟩,?_⟩
  .intro b off hp;have hin:MemPlace.cell b off∈before:=by rw[hps];simpa using hp
   rw[hb.frozen (hlt _ hin)];exact hz b off hin
  .intro ha;have:=hn ha;rw[hps]at this;simpa using this
  .intro p hp _;rw[hps];simpa using hp
end
end Go.RowKit
namespace Go.SX
open Go Go.PL Go.ChangeShapes Go.WideShapes Go.Deep Go.RowKit
section
variable {P:Program} {U:Uni}
def f6a(hU:UOK U){f:FuncId}{fe:Fent U}(hS:Spec P f fe){b:fe.B}{q:Args U fe.s.ps->Prop}(hF:∀xs,q xs->fe.F xs=some b)(hres:∀(X:Cx)vs,RRs X fe.s.rs (fe.wr b).1 vs->vs=[.bool true]){fn:Func}(hPs:e12 P U fn.params.toList fe.s.ps q)(hm:(b4o fe.s.ps&&Nat.beq (npK fe.s.ps) fe.s.ps.length)=true)(hl:laidOutB P=true)(hr:∀t∈fn.params.toList,P.readableRec t=true/\t<P.types.size){tb:TypeId}(hb:fn.resultTypes=#[tb])(hub:P.underlying tb=some .bool){s:ChangeSpec}(hsv:s.vars=[]){H:Type}(hfn:∀ds:O (DataW H),ds.length=fe.s.ps.length->(s.fn H ds).results=[.lit (.bool true)]/\(s.fn H ds).args=ds/\(s.fn H ds).vars=[])(enc:TypeId×A5->H)(W:World)(base:Nat)(args:Array A5)(ds gs:O (DataW H))(before:O MemPlace)(ht:U.tab W/\∀b,U.tb b->b<W.heap.size)(hval:∀(j:Nat)t v,fn.params[j]?=some t->args[j]?=some v->Value.okWide P W .any base t v)(hW:DataW.Whole enc P fn.params.toList s.vars false W args.toList ds gs before):Calls P f args W λe W'=>∃v,e=.returned v/\s.post enc P fn false true false false W args v W':=by
 have hW':=hW;have hlt:=hW.lt;obtain⟨p,pq,hA0,hV,rfl,hfz,hnd⟩:=hW;have hA:=hA0;rw[hsv]at hV;obtain⟨rfl,rfl⟩:=trodVars_none hV;let⟨hlen,xs,hq,hxs⟩:=e7d enc W base (λ_=>true) true hPs hA λj t v ht hv=>hval j t v (by simpa using ht) (by simpa using hv);have hdl:ds.length=fe.s.ps.length:=by rw[<-hlen];clear hxs hlen hW' hV hfz hnd hlt hval hA0;generalize fn.params.toList=ts at hA;generalize args.toList=vs at hA;induction ts generalizing vs ds p with|nil=>obtain⟨rfl,rfl,_⟩:=trodAll_nil hA;rfl|cons t ts ih=>obtain⟨v,vs',d,ds',p1,q1,rfl,rfl,rfl,g1,g2⟩:=trodAll_cons hA;simp[ih _ _ _ g2]
 simp [append_nil]at hW' hlt;have hC:=e4b hU hS (hF xs hq) ht hlen hm (fe.s.ps.map λ_=>[]) (λi hi=>by simp at hi;exact hi.2.symm▸rfl) λZ' hz=>hxs _ _ _ Z' hz;refine hC.mono λe W'⟨vs,Z',he,hE,hR⟩=>?_;have hv:=hres _ _ hR;subst hv;let⟨f1,f2,f3⟩:=hfn ds hdl;refine⟨.bool true,he,d42 (pa:=p) (pv:=[]) hW' (λb' sp hd=>?_) (λsp hsp=>?_) (λsp hsp=>?_) (by simp) hE.below (ok_one hb rfl (okWide_bool_mk hub _))⟩;.rw[append_nil,f1,hb];exact trodAll_cons_mk (shut_bool hub _) trodAll_mk0
 .rw[append_nil,f2];exact c48 hl hr hA (λx hx=>hE.below.same (hlt x hx)) λx hx=>hsp x hx
 .rw[append_nil,f3,hsv];rfl
end
end Go.SX
