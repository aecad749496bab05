/- Texts of the proof, joined. -/
import Derived.Test.YtpiclagiijpbkaaGreatDoorP4
set_option linter.defProp false
set_option linter.unusedVariables false
set_option linter.unusedSimpArgs false
set_option maxRecDepth 100000
open List
namespace Go.SX
open Go Go.PL Go.RowKit
section
variable {U:Uni} {P:Program}
def refI:U.AV->O Nat|.ref a=>[a]|_=>[]
def m27:U.AV->O Nat|.clo _ b=>b.flatMap refI|.ref a=>[a]|.fref a _ _=>[a]|.vw a _ _ _=>[a]|.va a _ _ _=>[a]|_=>[]
def l7b:U.AV->O Nat|.st _ b=>b.flatMap m27|a=>m27 a
def l8a:U.AV->O Nat|.clo _ b=>b.flatMap l7b|.tup b=>b.flatMap l7b|.bnd _ a=>l7b a|.ifc _ a=>l7b a|a=>l7b a
def l5a:U.MC->O Nat|.box _ a=>l7b a|_=>[]
def m4h(r:Nat->Nat):U.AV->U.AV|.ref b=>.ref (r b)|a=>a
def m26(r:Nat->Nat):U.AV->U.AV|.clo f d=>.clo f (d.map (m4h r))|.ref b=>.ref (r b)|.fref b c p=>.fref (r b) c p|.vw b c e n=>.vw (r b) c e n|.va b c p n=>.va (r b) c p n|a=>a
def l84(r:Nat->Nat):U.AV->U.AV|.st c b=>.st c (b.map (m26 r))|a=>m26 r a
def m4m(r:Nat->Nat):U.AV->U.AV|.clo f b=>.clo f (b.map (l84 r))|.tup b=>.tup (b.map (l84 r))|.bnd f a=>.bnd f (l84 r a)|.ifc t a=>.ifc t (l84 r a)|a=>l84 r a
def m2b(r:Nat->Nat):U.MC->U.MC|.box t a=>.box t (l84 r a)|m=>m
def l4z{c β g:Type}{Q:c->β->Prop}{e:g->β->Prop}{f:c->g}:∀{as:O c}{d:O β},y7 Q as d->(∀a∈as,∀b,Q a b->e (f a) b)->y7 e (as.map f) d|[],[],_,_=>trivial|a::as,b::d,h,i=>⟨i a qI b h.1,l4z h.2 λj k=>i j (qJ _ k)⟩|[],_::_,h,_=>h.elim|_::_,[],h,_=>h.elim
section
variable {Z us us':Nat -> Prop} {π π':Nat -> A5} {w:World} {r:Nat -> Nat}
def trI{a:U.AV}{v:A5}(c:∀id∈refI a,us id->us' (r id)/\π' (r id)=π id)(h:l9j (⟨Z,π,us,w⟩:Cx) a v):l9j (⟨Z,π',us',w⟩:Cx) (m4h r a) v:=by cases a<;>first|exact h.elim|(let ⟨b,d⟩:=c _ (qF.2 rfl) h.1;exact⟨b,h.2.1.trans d.symm,h.2.2⟩)
def tr0{a:U.AV}{v:A5}(e:∀id∈m27 a,us id->us' (r id)/\π' (r id)=π id)(h:b79 (⟨Z,π,us,w⟩:Cx) a v):b79 (⟨Z,π',us',w⟩:Cx) (m26 r a) v:=by cases a with|ref id=>let ⟨d,b⟩:=e id (qF.2 rfl) h.1;exact⟨d,h.2.1.trans b.symm,h.2.2⟩|fref id c p=>let ⟨d,b⟩:=e id (qF.2 rfl) h.1;let ⟨a,i,g⟩:=h.2;exact⟨d,a,by show c5g (π' _)=some a;rw[b];exact i,g⟩|vw id c o n=>let ⟨d,b⟩:=e id (qF.2 rfl) h.1;exact⟨d,by show d0z v (π' _) _ _ _;rw[b];exact h.2⟩|va id c p n=>let ⟨d,b⟩:=e id (qF.2 rfl) h.1;let ⟨a,i,g⟩:=h.2;exact⟨d,a,by show c5g (π' _)=some a;rw[b];exact i,g⟩|clo f q=>let ⟨m,g,i⟩:=h;exact⟨m,g,l4z i λa k u l=>trI (λid j=>e id (List.mem_flatMap.2 ⟨a,k,j⟩)) l⟩|_=>exact h
def l8y(a:U.AV):a07 (m26 r a)=a07 a:=by cases a<;>rfl
def l81(a:U.AV):a03 (m26 r a)=a03 a:=by cases a<;>rfl
def tr1{a:U.AV}{v:A5}(b:∀id∈l7b a,us id->us' (r id)/\π' (r id)=π id)(h:a1p (⟨Z,π,us,w⟩:Cx) a v):a1p (⟨Z,π',us',w⟩:Cx) (l84 r a) v:=by
 cases a with|st c g=>
   let ⟨e,o,l,s,q⟩:=h;refine⟨e,o,?_,?_,l4z q λa i t⟨u,j,k⟩=>⟨u,j,tr0 (λid d=>b id (List.mem_flatMap.2 ⟨a,i,d⟩)) k⟩⟩;.rw[List.map_map,<-l];exact List.map_congr_left λa _=>l8y a
   .rw[all_map,<-s];congr 1;funext a;exact l81 a|ref id=>exact tr0 (U:=U) (a:=.ref id) b h|fref id c p=>exact tr0  (a:=.fref id c p) b h|vw id c m n=>exact tr0  (a:=.vw id c m n) b h|va id c p n=>exact tr0  (a:=.va id c p n) b h|clo f g=>exact tr0  (a:=.clo f g) b h|_=>exact h
def trA{a:U.AV}{v:A5}(b:∀id∈l8a a,us id->us' (r id)/\π' (r id)=π id)(h:AVR (⟨Z,π,us,w⟩:Cx) a v):AVR (⟨Z,π',us',w⟩:Cx) (m4m r a) v:=by cases a with|clo f k=>let ⟨m,e,i⟩:=h;exact⟨m,e,l4z i λa j u o=>tr1 (λid d=>b id (List.mem_flatMap.2 ⟨a,j,d⟩)) o⟩|tup k=>let ⟨m,e,i⟩:=h;exact⟨m,e,l4z i λa j u o=>tr1 (λid d=>b id (List.mem_flatMap.2 ⟨a,j,d⟩)) o⟩|bnd f a=>let ⟨u,e,i⟩:=h;exact⟨u,e,tr1 b i⟩|ifc t a=>let ⟨u,e,i⟩:=h;exact⟨u,e,tr1 b i⟩|st c k=>exact tr1  (a:=.st c k) b h|km g t l=>exact h|vl g t c l=>exact h|ref id=>exact tr0 (U:=U) (a:=.ref id) b h|fref id c p=>exact tr0  (a:=.fref id c p) b h|vw id c q n=>exact tr0  (a:=.vw id c q n) b h|va id c p n=>exact tr0  (a:=.va id c p n) b h|_=>exact h
def trM{m:U.MC}{v:A5}(d:∀id∈l5a m,us id->us' (r id)/\π' (r id)=π id)(h:MR (⟨Z,π,us,w⟩:Cx) m v):MR (⟨Z,π',us',w⟩:Cx) (m2b r m) v:=by cases m with|box t a=>let ⟨b,u,f,c,e⟩:=h;exact⟨b,u,f,c,tr1 d e⟩|_=>exact h
end
def l8i{r:Nat->Nat}{m:U.MC}{v:A5}{b:Nat}:MB (m2b r m) v b↔MB m v b:=by cases m<;>exact Iff.rfl
def l5m{r:Nat->Nat}{m:U.MC}(h:m≠.never):m2b r m≠.never:=by cases m<;>first|exactλe=>h e|exactλe=>(by cases e)
def m2h(a:U.AV):m4h (λi=>i) a=a:=by cases a<;>rfl
def l8n(a:U.AV):m26 (λi=>i) a=a:=by cases a with|clo f b=>show AV.clo f _=_;rw[List.map_congr_left λa _=>m2h a,map_id']|_=>rfl
def l5b(a:U.AV):l84 (λi=>i) a=a:=by cases a with|st c b=>show AV.st c _=_;rw[List.map_congr_left λa _=>l8n a,map_id']|clo f b=>exact l8n  (.clo f b)|_=>rfl
def m2e(a:U.AV):m4m (λi=>i) a=a:=by cases a with|clo f b=>show AV.clo f _=_;rw[List.map_congr_left λa _=>l5b a,map_id']|tup b=>show AV.tup _=_;rw[List.map_congr_left λa _=>l5b a,map_id']|bnd f a=>show AV.bnd f _=_;rw[l5b]|ifc t a=>show AV.ifc t _=_;rw[l5b]|st c b=>exact l5b  (.st c b)|_=>rfl
def m1z(m:U.MC):m2b (λi=>i) m=m:=by cases m with|box t a=>show MC.box t _=_;rw[l5b]|_=>rfl
def l5i(k:O (Nat×U.MC)->U.Q):Nat->O Nat->O (Nat×U.MC)->U.Q|0,_,_=>.fail|_+1,[],a=>k a|n+1,b::r,a=>match lk b a with|some _=>l5i k n r a|none=>.rdM b λm=>l5i k n (l5a m++r) ((b,m)::a)
def l5g{σ:U.St}{k:O (Nat×U.MC)->U.Q}:∀(n:Nat)(d:O Nat)(c:O (Nat×U.MC)){p m:Nat}{v:U.AV}{l:O (Nat×U.MC)},(l5i k n d c).Ev σ p m v l->(∀id x,lk id c=some x->x=σ.mem id)->(∀id x,lk id c=some x->∀j∈l5a x,(lk j c).isSome=true\/j∈d)->∃a o,(k a).Ev σ o m v l/\(∀id x,lk id a=some x->x=σ.mem id)/\(∀id x,lk id a=some x->∀j∈l5a x,(lk j a).isSome=true)/\∀id,(lk id c).isSome=true\/id∈d->(lk id a).isSome=true
 |0,_,_,_,_,_,_,b,_,_=>b.elim|n+1,[],c,p,m,v,l,b,q,s=>⟨c,p,b,q,λid x h j g=>(s id x h j g).elim (λh=>h) (λh=>by cases h),λid h=>h.elim (λh=>h) (λh=>by cases h)⟩|n+1,i::r,c,p,m,v,l,b,q,s=>by
   simp [l5i]at b;split at b
   .rename_i y B;let ⟨a,o,A,z,t,w⟩:=l5g n r c b q λid x h j g=>by
     rcases s id x h j g with h|h;.exact .inl h
     .rcases qO.1 h with rfl|h;.exact .inl (by rw[B];rfl)
      .exact .inr h
    refine⟨a,o,A,z,t,λid h=>w id ?_⟩;rcases h with h|h;.exact .inl h
    .rcases qO.1 h with rfl|h;.exact .inl (by rw[B];rfl)
     .exact .inr h
   .let ⟨a,o,A,z,t,w⟩:=l5g n _ _ b (λid x h=>by
      rw[d3g]at h;split at h;.rename_i e;subst e;cases h;rfl
      .exact q id x h) λid x h j g=>by
     rw[d3g]at h;rw[d3g];split at h;.cases h;exact .inr (List.mem_append_left _ g)
     .split;.exact .inl rfl
      .rename_i f;rcases s id x h j g with h|h;.exact .inl h
       .rcases qO.1 h with rfl|h;.exact absurd rfl f
        .exact .inr (List.mem_append_right _ h)
    refine⟨a,o,A,z,t,λid h=>w id ?_⟩;rw[d3g];split;.exact .inl rfl
    .rename_i f;rcases h with h|h;.exact .inl h
     .rcases qO.1 h with rfl|h;.exact absurd rfl f
      .exact .inr (List.mem_append_right _ h)
def gds:O Oper->O Nat|[]=>[]|o::r=>match o.guard with|some (g,_)=>(match(gds r).any (Nat.beq g)with|true=>gds r|false=>g::gds r)|none=>gds r
def l7u{R:Type}(P:Program)(Φ:Phi U):Code->Ann U.C->U.St->Kont U R->A3 R
 |.skip,_,d,k=>k.norm d|.region _ h j,f,d,k=>d6q P Φ (f.sp++gds h.toList) h.toList j (frzA d f.fz) k.norm|.seq a b,f,d,k=>l7u P Φ a f.fst d ⟨λd=>l7u P Φ b f.snd d k,k.exit,k.ret⟩|.cond c a b,f,d,k=>match c0g d c with|some e=>if e=true then l7u P Φ a f.fst d k else l7u P Φ b f.snd d k|none=>none
 |.block m a,f,d,k=>l7u P Φ a f d ⟨k.norm,λi d=>match Nat.beq i m with|true=>k.norm d|false=>k.exit i d,k.ret⟩|.loop a,f,d,k=>d9 FU (λl d=>l7u P Φ a f d ⟨l,k.exit,k.ret⟩) d|.exit m,_,d,k=>k.exit m d|.ret,_,d,k=>k.ret d|_,_,_,_=>none
structure KOKC{R:Type}(E:Env)(k:Kont U R)(r:R)(Q:Exit->(Nat->Value)->World->Prop):Prop where
 norm:∀σ Z π ρ w,Rel E Z π σ ρ w->k.norm σ=some r->Q .normal ρ w
 exit:∀i σ Z π ρ w,Rel E Z π σ ρ w->k.exit i σ=some r->Q (.exit i) ρ w
 ret:∀σ Z π ρ w,Rel E Z π σ ρ w->k.ret σ=some r->Q .ret ρ w
variable {n:Nat} {Φ:Phi U}
def l4c(y:UOK U)(o:OKΦ P Φ)(x:P.follows .mixedOrders=true){R:Type}{E:Env}:∀(c:Code)(an:Ann U.C)(σ:U.St)(k:Kont U R)(r:R),a3z n c=true->l7u P Φ c an σ k=some r->∀Q,KOKC E k r Q->∀Z π ρ w,Rel E Z π σ ρ w->WP P n c Q ρ w
 |.skip,an,σ,k,r,_,h,Q,j,Z,π,ρ,w,l=>WP.skip (j.norm σ Z π ρ w l h)|.region v S I,an,σ,k,r,m,h,Q,j,Z,π,ρ,w,l=>by simp only[a3z,qB]at m;obtain⟨Z,l⟩:=f5q l an.fz;have:=e7n (Q:=Q) (id:=v) y o x m.1.1 m.1.2 m.2 h (λd Z π q w _ f g=>j.norm d Z π q w f g) l;rwa[Array.toArray_toList]at this|.seq a b,an,σ,k,r,m,h,Q,j,Z,π,ρ,w,l=>by simp only[a3z,qB]at m;refine WP.seq ?_;exact l4c y o x a an.fst σ _ r m.1 h (d78 (WP P n b Q) Q) ⟨λd Z π ρ w f g=>l4c y o x b an.snd d k r m.2 g Q j Z π ρ w f,λi d Z π ρ w f g=>j.exit i d Z π ρ w f g,λd Z π ρ w f g=>j.ret d Z π ρ w f g⟩ Z π ρ w l|.cond c a b,an,σ,k,r,m,h,Q,j,Z,π,ρ,w,l=>by
   simp only[a3z,qB]at m;simp only[l7u]at h;split at h
   .rename_i e M;refine WP.cond (t:=e) m.1 (f4h l M) (λL=>?_) (λN=>?_);.rw[if_pos L]at h;exact l4c y o x a _ σ k r m.2.1 h Q j Z π ρ w l
    .rw[if_neg (by rw[N];simp)]at h;exact l4c y o x b _ σ k r m.2.2 h Q j Z π ρ w l
   .cases h|.block v a,an,σ,k,r,m,h,Q,j,Z,π,ρ,w,l=>by refine WP.block ?_;refine l4c y o x a an σ _ r m h (e48 v Q) ⟨λd Z π ρ w f g=>j.norm d Z π ρ w f g,λi d Z π ρ w f g=>?_,λd Z π ρ w f g=>j.ret d Z π ρ w f g⟩ Z π ρ w l;show(if i=v then Q .normal ρ w else Q (.exit i) ρ w);have g:(match Nat.beq i v with|true=>k.norm d|false=>k.exit i d)=some r:=g;cases C:Nat.beq i v with|true=>rw[C]at g;rw[if_pos (qC C)];exact j.norm d Z π ρ w f g|false=>rw[C]at g;rw[if_neg (Nat.ne_of_beq_eq_false C)];exact j.exit i d Z π ρ w f g
 |.loop a,an,σ,k,r,m,h,Q,j,Z,π,ρ,w,l=>by refine WP.loop (λA ρ w=>∃σ Z π,Rel E Z π σ ρ w/\d9 A _ σ=some r) FU ⟨σ,Z,π,l,h⟩ (λρ w⟨_,_,_,_,h⟩=>by cases h) ?_;rintro A G K⟨F,J,D,H,T⟩;exact l4c y o x a an F _ r m T (d78 (λρ w=>∃σ Z π,Rel E Z π σ ρ w/\d9 A _ σ=some r) Q) ⟨λd z u q B f g=>⟨d,z,u,f,g⟩,λi d z u q B f g=>j.exit i d z u q B f g,λd z u q B f g=>j.ret d z u q B f g⟩ J D G K H|.exit v,an,σ,k,r,_,h,Q,j,Z,π,ρ,w,l=>WP.exit (j.exit v σ Z π ρ w l h)|.ret,an,σ,k,r,_,h,Q,j,Z,π,ρ,w,l=>WP.ret (j.ret σ Z π ρ w l h)|.rangeFunc _ _ _ _,_,_,_,_,_,h,_,_,_,_,_,_,_=>by cases h|.scope _,_,_,_,_,_,h,_,_,_,_,_,_,_=>by cases h|.label _,_,_,_,_,_,h,_,_,_,_,_,_,_=>by cases h|.goto _,_,_,_,_,_,h,_,_,_,_,_,_,_=>by cases h|.refuse _,_,_,_,_,_,h,_,_,_,_,_,_,_=>by cases h
def l88:Nat->O U.AV->O (Nat×U.AV)|_,[]=>[]|i,a::c=>(i,a)::l88 (i+1) c
def m4p(P:Program)(σ:U.St):O ResultVar->A3 (O U.AV)|[]=>some []|r::l=>match f3d P σ r,m4p P σ l with|some a,some c=>some (a::c)|_,_=>none
def m2y(P:Program)(fn:Func)(σ:U.St):A3 (U.AV×U.St):=match m4p P σ fn.results.toList with|some [a]=>some (a,σ)|some b=>(match b.all c1d with|true=>some (.tup b,σ)|false=>none)|none=>none
def l8u(σ:U.St)(b:O (Nat×U.MC)):Nat->O Nat->O Nat->A3 (O Nat)|0,_,_=>none|_+1,[],a=>some a|n+1,c::r,a=>match(lk c b).isSome||a.any (Nat.beq c)with|true=>l8u σ b n r a|false=>l8u σ b n (l5a (σ.mem c)++r) (c::a)
def l87:Nat->O Nat->O (Nat×Nat)|_,[]=>[]|n,i::r=>(i,n)::l87 (n+1) r
def l86(a:O (Nat×Nat))(id:Nat):Nat:=match lk id a with|some j=>j|none=>id
def m2c(a:O (Nat×U.MC))(b:O (Nat×Nat))(l:O Nat):Bool:=l.all λj=>(lk j a).isSome||(lk j b).isSome
def l7j:U.MC->Bool|.never=>false|_=>true
def m1r(a:O (Nat×U.MC))(d:O (Nat×Nat))(b:O Nat)(p:U.AV×U.St):Bool:=m2c a d (l8a p.1)&&(a.all λq=>l7j q.2&&m2c a d (l5a (p.2.mem q.1)))&&(b.all λc=>l7j (p.2.mem c)&&!(lk c a).isSome&&m2c a d (l5a (p.2.mem c)))&&c6j b
def m36(b:O (Nat×U.MC))(a:O (Nat×Nat))(c:O Nat)(p:U.AV×U.St):A3 (U.AV×O (Nat×U.MC)×O Nat):=match m1r b a c p with|true=>some (m4m (l86 a) p.1,(b.map λq=>(q.1,m2b (l86 a) (p.2.mem q.1)))++(a.map λq=>(q.2,m2b (l86 a) (p.2.mem q.1))),a.map (·.2))|false=>none
def m1y(b:O (Nat×U.MC))(fr:Nat)(p:U.AV×U.St):A3 (U.AV×O (Nat×U.MC)×O Nat):=match l8u p.2 b 1000 (l8a p.1++b.flatMap λq=>l5a (p.2.mem q.1)) []with|some a=>m36 b (l87 fr a) a p|none=>none
def l5w:∀(l:O Nat)(n:Nat){a j:Nat},lk a (l87 n l)=some j->n<=j
 |[],n,a,j,h=>by cases h|i::l,n,a,j,h=>by
   rw[l87,d3g]at h;split at h;.cases h;exact Nat.le_refl _
   .exact Nat.le_of_succ_le (l5w l _ h)
def l6w:∀(l:O Nat)(n:Nat){a j:Nat},lk a (l87 n l)=some j->lk j ((l87 n l).map λq=>(q.2,q.1))=some a
 |[],n,a,j,h=>by cases h|i::l,n,a,j,h=>by
   rw[l87,d3g]at h;show lk j ((n,i)::(l87 _ l).map _)=some a;rw[d3g];split at h;.rename_i e;cases h;rw[if_pos rfl,e]
   .have:=l5w l _ h;rw[if_neg (by omega)];exact l6w l _ h
def l7g:∀(l:O Nat)(n:Nat){a j:Nat},c6j l=true->(a,j)∈l87 n l->lk a (l87 n l)=some j/\a∈l
 |[],n,a,j,_,h=>by cases h|i::l,n,a,j,f,h=>by
   let ⟨d,c⟩:=b1j f;rw[l87,d3g];rcases qO.1 h with h|h;.cases h;exact⟨if_pos rfl,qI⟩
   .let ⟨k,b⟩:=l7g l _ c h;rw[if_neg (λe=>d (by rw[e];exact b))];exact⟨k,qJ _ b⟩
def l8c{b β:Type}(g:Nat->β)(id:Nat):∀l:O (Nat×b),lk id (l.map λq=>(q.1,g q.1))=(lk id l).map λ_=>g id
 |[]=>rfl|(i,a)::l=>by
   rw[List.map_cons,d3g,d3g,l8c g id l];split;.rename_i e;rw[<-e];rfl
   .rfl
def l8l{β:Type}(g:Nat->β)(id:Nat):∀l:O (Nat×Nat),lk id (l.map λq=>(q.2,g q.1))=(lk id (l.map λq=>(q.2,q.1))).map g|[]=>rfl|(i,a)::l=>by rw[List.map_cons,List.map_cons,d3g,d3g,l8l g id l];split<;>rfl
variable {E:Env} {Z:Nat -> Prop} {π:Nat -> A5} {σ:U.St} {ρ:Nat -> A5} {w:World}
def m52(Z:Nat->Prop)(π:Nat->A5)(a:O (Nat×U.MC))(w:World):Env:=⟨w,λb=>∃c x,lk c a=some x/\MB x (π c) b,Z,λc=>∃x,lk c a=some x/\x≠.never,π⟩
def l8e:∀(as:O U.AV)(i t:Nat),lk t (l88 i as)=if i<=t then as[t-i]?else none
 |[],i,t=>by simp[l88,lk]|a::as,i,t=>by
   rw[l88,d3g,l8e as _ t];by_cases h:i=t;.subst h;simp
   .rw[if_neg h];by_cases b:i+1<=t;.rw[if_pos b,if_pos (by omega),show t-i=(t-(i+1))+1by omega,List.getElem?_cons_succ]
    .rw[if_neg b,if_neg (by omega)]
def Rel.sub(N:UOK U)(h:Rel E Z π σ ρ w){c:O (Nat×U.MC)}(s:∀id x,lk id c=some x->x=σ.mem id)(M:∀id x,lk id c=some x->∀j∈l5a x,(lk j c).isSome=true){as:O U.AV}{us:O A5}(C:y7 (AVR (cx Z π σ w)) as us)(Q:∀id∈as.flatMap l8a,(lk id c).isSome=true)(nx:Nat):Rel (m52 Z π c w) Z π (⟨l88 0 as,c,nx⟩:U.St) (λt=>us.getD t undef) w:=by
 have e:∀id,(⟨l88 0 as,c,nx⟩:U.St).mem id=match lk id c with|some m=>m|none=>.never:=by intro id;unfold St.mem;cases lk id c<;>rfl
 have k:∀{id b},MB ((⟨l88 0 as,c,nx⟩:U.St).mem id) (π id) b->(∃x,lk id c=some x/\MB x (π id) b)/\MB (σ.mem id) (π id) b:=by intro id b d;rw[e]at d;cases l:lk id c with|none=>rw[l]at d;exact d.elim|some x=>rw[l]at d;exact⟨⟨x,rfl,d⟩,by rw[<-s id x l];exact d⟩
 have o:∀id,(lk id c).isSome=true->b7a σ id->b7a (⟨l88 0 as,c,nx⟩) id:=by intro id z g;let ⟨x,f⟩:=Option.isSome_iff_exists.1 z;unfold b7a;rw[e,f];rw[s id x f];exact g
 refine⟨λt=>?_,λid=>?_,λid b d=>?_,λid v b B d y=>h.dist id v b B (k d).2 (k y).2,h.zlt,λb d=>.inl d,λb d=>d,Ext.refl _ _,λid⟨x,f,I⟩=>⟨?_,rfl⟩,h.tabw N,λb d=>⟨Nat.lt_of_lt_of_le (h.tab.2 b d).1 h.ext.size,λ⟨id,x,f,p⟩=>?_⟩⟩
 .have z:(⟨l88 0 as,c,nx⟩:U.St).slot t=match as[t]?with|some a=>a|none=>.unk:=by unfold St.slot;rw[l8e,Nat.sub_zero];cases as[t]?<;>rfl
  rw[z];cases F:as[t]?with|none=>trivial|some a=>let ⟨u,g,A⟩:=C.get F;rw[List.getD_eq_getElem?_getD,g];have:=trA        (λid D g=>⟨o id (Q id (List.mem_flatMap.2 ⟨a,qE F,D⟩)) g,rfl⟩) A;rwa[m2e]at this
 .rw[e];cases l:lk id c with|none=>trivial|some x=>have f:=s id x l;have G:=h.mem id;rw[<-f]at G;have:=trM        (λj J g=>⟨o j (M id x l j J) g,rfl⟩) G;rwa[m1z]at this
 .let ⟨⟨x,f,p⟩,d⟩:=k d;let ⟨H,L,_⟩:=h.own id b d;exact⟨H,L,.inl ⟨id,x,f,p⟩⟩
 .unfold b7a;rw[e,f];exact I
 .rw[s id x f]at p;let ⟨_,_,q⟩:=h.own id b p;have K:=h.tab.2 b d;rcases q with q|q;.exact K.2 q
  .omega
def Rel.back(h:Rel E Z π σ ρ w){f:O (Nat×U.MC)}(g1:∀id x,lk id f=some x->x=σ.mem id){Z':Nat->Prop}{π':Nat->A5}{σ':U.St}{ρ':Nat->A5}{w':World}(L:Rel (m52 Z π f w) Z' π' σ' ρ' w'){a:U.AV}{v:A5}(ha:AVR (cx Z' π' σ' w') a v){fr:Nat}{q:U.AV×O (Nat×U.MC)×O Nat}(R:m1y f fr (a,σ')=some q)(M:∀id∈q.2.2,σ.mem id=.never)(d:A3 Tmp):∃Z2 J,Rel E Z2 J (σ.app d q.1 q.2.1) (b20 ρ d v) w':=by
 unfold m1y at R;split at R;case h_2=>cases R
 rename_i t _;unfold m36 at R;split at R;case h_2=>cases R
 rename_i V;obtain rfl:=qH R;simp only at M;unfold m1r at V;simp only[qB]at V;obtain⟨⟨⟨okA,okG⟩,okK⟩,okN⟩:=V;generalize T:l87 fr t=i at*;let g:Nat->U.MC:=λc=>m2b (l86 i) (σ'.mem c);let F:Nat->A3 Nat:=λid=>match lk id f with|some _=>some id|none=>lk id (i.map λq=>(q.2,q.1));let J:Nat->A5:=λid=>match F id with|some c=>π' c|none=>π id;have H:∀{id x},lk id f=some x->x≠.never/\m2c f i (l5a (σ'.mem id))=true:=by intro id x u;have:=qX.1 okG (id,x) (b1x u);simp only[qB]at this;exact⟨λe=>by rw[e]at this;exact absurd this.1 (by simp[l7j]),this.2⟩
 have o:∀{id},id∈t->σ'.mem id≠.never/\lk id f=none/\m2c f i (l5a (σ'.mem id))=true:=by intro id hid;have:=qX.1 okK id hid;simp only[qB,Bool.not_eq_true']at this;exact⟨λe=>by rw[e]at this;exact absurd this.1.1 (by simp[l7j]),by simpa using this.1.2,this.2⟩
 have A:∀{id c},lk id (i.map λq=>(q.2,q.1))=some c->lk c i=some id/\c∈t/\σ.mem id=.never:=by
  intro id c hs;obtain⟨p,hp,e⟩:=List.mem_map.1 (b1x hs);simp only[Prod.mk.injEq]at e;obtain⟨e1,e2⟩:=e;have hp':(c,id)∈i:=by rw[<-e1,<-e2];exact hp
  have hh:=l7g t fr okN (by rw[T];exact hp');rw[T]at hh;exact⟨hh.1,hh.2,M id (List.mem_map.2 ⟨(c,id),hp',rfl⟩)⟩
 have Q:∀{id x},lk id f=some x->b7a σ' id/\π' id=π id:=λu=>L.pin _ ⟨_,u,(H u).1⟩;have N:∀id,lk id ((f.map λq=>(q.1,g q.1))++(i.map λq=>(q.2,g q.1)))=(F id).map g:=by intro id;rw[c7z,l8c,l8l];have e:F id=match lk id f with|some _=>some id|none=>lk id (i.map λq=>(q.2,q.1)):=rfl;rw[e];cases lk id f<;>rfl
 have F2:∀{id c},F id=some c->b7a σ' c/\m2c f i (l5a (σ'.mem c))=true:=by intro id c k;have k:(match lk id f with|some _=>some id|none=>lk id (i.map λq=>(q.2,q.1)))=some c:=k;cases y:lk id f with|some x=>rw[y]at k;cases k;exact⟨(Q y).1,(H y).2⟩|none=>rw[y]at k;obtain⟨_,C,_⟩:=A k;exact⟨(o C).1,(o C).2.2⟩
 have F3:∀{id r c},F id=some c->F r=some c->id=r:=by intro id r c z C;have z:(match lk id f with|some _=>some id|none=>lk id (i.map λq=>(q.2,q.1)))=some c:=z;have C:(match lk r f with|some _=>some r|none=>lk r (i.map λq=>(q.2,q.1)))=some c:=C;cases y:lk id f with
  |some x=>rw[y]at z;cases z;cases D:lk r f with|some x'=>rw[D]at C;cases C;rfl|none=>rw[D]at C;have:=(o (A C).2.1).2.1;rw[y]at this;cases this
  |none=>rw[y]at z;cases D:lk r f with|some x'=>rw[D]at C;cases C;have:=(o (A z).2.1).2.1;rw[D]at this;cases this|none=>rw[D]at C;have e1:=(A z).1;have e2:=(A C).1;rw[e1]at e2;exact qH e2
 have F5:∀{id c},b7a σ id->F id=some c->c=id/\∃x,lk id f=some x:=by intro id c hu k;have k:(match lk id f with|some _=>some id|none=>lk id (i.map λq=>(q.2,q.1)))=some c:=k;cases y:lk id f with|some x=>rw[y]at k;cases k;exact⟨rfl,x,rfl⟩|none=>rw[y]at k;exact absurd (A k).2.2 hu
 have F4:∀{j},((lk j f).isSome||(lk j i).isSome)=true->F (l86 i j)=some j:=by intro j hj;cases hr:lk j i with
  |some W=>
    have e:l86 i j=W:=by unfold l86;rw[hr]
    rw[e];have hs:lk W (i.map λq=>(q.2,q.1))=some j:=by rw[<-T]at hr⊢;exact l6w t fr hr
    show(match lk W f with|some _=>some W|none=>lk W (i.map λq=>(q.2,q.1)))=some j;cases y:lk W f with|some x=>have:=(A hs).2.2;rw[<-g1 W x y]at this;exact absurd this (H y).1|none=>exact hs
  |none=>
    rw[hr]at hj;simp at hj;obtain⟨x,u⟩:=Option.isSome_iff_exists.1 hj;have e:l86 i j=j:=by unfold l86;rw[hr]
    rw[e];show(match lk j f with|some _=>some j|none=>lk j (i.map λq=>(q.2,q.1)))=some j;rw[u]
 have s:∀{id c},F id=some c->J id=π' c:=by intro id c k;show(match F id with|some c=>π' c|none=>π id)=π' c;rw[k]
 have S:∀{b:U.AV}{id c},F id=some c->b7a (σ.app d b ((f.map λq=>(q.1,g q.1))++(i.map λq=>(q.2,g q.1)))) id:=by intro b id c k;unfold b7a;rw[o8,N,k];exact l5m (F2 k).1
 have I:∀{b:U.AV}{l:O Nat},m2c f i l=true->∀j∈l,b7a σ' j->b7a (σ.app d b ((f.map λq=>(q.1,g q.1))++(i.map λq=>(q.2,g q.1)))) (l86 i j)/\J (l86 i j)=π' j:=by intro b l y j hj _;have:=F4 (qX.1 y j hj);exact⟨S this,s this⟩
 refine⟨Z',J,h.next (a:=m4m (l86 i) a) (d:=d) (l:=(f.map λq=>(q.1,g q.1))++(i.map λq=>(q.2,g q.1))) ?_ L.zout ?_ ?_ ?_ ?_ ?_ ?_ ?_⟩;.refine L.ext.mono λb⟨id,x,u,K⟩=>⟨id,g id,?_,by rw[<-g1 id x u];exact K⟩;rw[N];show((match lk id f with|some _=>some id|none=>lk id (i.map λq=>(q.2,q.1))):A3 Nat).map g=some (g id);rw[u];rfl
 .intro b K;rcases L.zin b K with z|⟨id,x,u,z⟩|z;.exact .inl z
  .refine .inr (.inr ⟨id,g id,?_,by rw[<-g1 id x u];exact z⟩);rw[N];show((match lk id f with|some _=>some id|none=>lk id (i.map λq=>(q.2,q.1))):A3 Nat).map g=some (g id);rw[u];rfl
  .exact .inr (.inl ⟨z,L.zlt b K⟩)
 .intro id hu;show(match F id with|some c=>π' c|none=>π id)=π id;cases k:F id with|none=>rfl|some c=>obtain⟨e,x,u⟩:=F5 hu k;rw[e];exact(Q u).2
 .intro id m G;rw[N]at G;obtain⟨c,k,e⟩:=Option.map_eq_some_iff.1 G;rw[<-e];exact l5m (F2 k).1
 .intro id m G;rw[N]at G;obtain⟨c,k,e⟩:=Option.map_eq_some_iff.1 G;rw[<-e,s k];exact trM (I (F2 k).2) (L.mem c)
 .intro id m b G K;rw[N]at G;obtain⟨c,k,e⟩:=Option.map_eq_some_iff.1 G;rw[<-e,s k]at K;obtain⟨z,C,h3⟩:=L.own c b (l8i.1 K);refine⟨z,C,?_⟩;rcases h3 with⟨B,x,u,h3⟩|h3;.refine .inr ⟨B,g B,?_,by rw[<-g1 B x u];exact h3⟩;rw[N];show((match lk B f with|some _=>some B|none=>lk B (i.map λq=>(q.2,q.1))):A3 Nat).map g=some (g B);rw[u];rfl
  .exact .inl h3
 .intro id r m m' b hne G Y K hb';rw[N]at G Y;obtain⟨c,k,e⟩:=Option.map_eq_some_iff.1 G;obtain⟨X,ho',e'⟩:=Option.map_eq_some_iff.1 Y;rw[<-e,s k]at K;rw[<-e',s ho']at hb';exact L.dist c X b (λee=>hne (F3 k (by rw[ee];exact ho'))) (l8i.1 K) (l8i.1 hb')
 .exact trA (I okA) ha
def m2q(fn:Func):Bool:=fn.body.isSome&&(a3z fn.ntmps (fn.body.getD .skip)&&c1m fn.ntmps fn.results.toList)
def l65(g:UOK U)(h:Rel E Z π σ ρ w):∀{rs:O ResultVar}{as:O U.AV},c1m n rs=true->m4p P σ rs=some as->∃us,(rs.mapM (c6y (Fr n ρ).tmps)).run P w=.ok us w/\y7 (AVR (cx Z π σ w)) as us
 |[],as,_,b=>by cases b;exact⟨[],by simp,trivial⟩|r::rs,as,d,b=>by
   simp [m4p]at b;split at b;.rename_i a i m l;cases b;simp only[c1m,List.all_cons,qB]at d;let ⟨u,j,c⟩:=f6r  g h d.1 m;let ⟨us,f,e⟩:=l65 g h  d.2 l;exact⟨u::us,by simp[j,f],c,e⟩
   .cases b
def l9i(j:UOK U)(h:Rel E Z π σ ρ w){fn:Func}(i:c1m n fn.results.toList=true){p:U.AV×U.St}(d:m2y P fn σ=some p):∃v,(results fn (Fr n ρ).tmps).run P w=.ok v w/\p.2=σ/\AVR (cx Z π σ w) p.1 v:=by
 unfold m2y at d;split at d;.rename_i a g;cases d;let ⟨f,e,b⟩:=l65  j h i g;match f,b with|[u],b=>exact⟨_,d0d e,rfl,b.1⟩|[],b=>exact b.elim|_::_::_,b=>exact b.2.elim
 .rename_i k c g;split at d;.rename_i l;cases d;let ⟨f,e,b⟩:=l65  j h i g;refine⟨_,d0d e,rfl,f,?_,b6t l b⟩;match f,k,b,c with|[u],[a],_,c=>exact absurd rfl (c a)|[],_,_,_=>rfl|_::_::_,_,_,_=>rfl
  .cases d
 .cases d
end
def ky0 (tM:TypeId):O Oper:=[{dst:=some 4,op:= .load tM (.tmp 1),type:=tM,pos:= "iter.go:27",after:= #[],guard:=none},{dst:=some 5,op:= .range tM (.tmp 4),type:=0,pos:= "iter.go:27",after:= #[{on:=0,ground:= .data}],guard:=none}]
def ky1 (tB:TypeId):O Oper:=[{dst:=some 6,op:= .next (.tmp 5) false,type:=0,pos:= "iter.go:27",after:= #[],guard:=none},{dst:=some 7,op:= .extract (.tmp 6) 0,type:=tB,pos:= "iter.go:27",after:= #[{on:=0,ground:= .data}],guard:=none}]
def ky2 (tI:TypeId):O Oper:=[{dst:=some 8,op:= .entry (.tmp 5),type:=0,pos:= "iter.go:27",after:= #[],guard:=none},{dst:=some 9,op:= .extract (.tmp 8) 0,type:=tI,pos:= "iter.go:27",after:= #[{on:=0,ground:= .data}],guard:=none},
 {dst:=some 3,op:= .assign (.tmp 9),type:=tI,pos:= "iter.go:27",after:= #[{on:=1,ground:= .data},{on:=0,ground:= .phase},{on:=1,ground:= .phase}],guard:=none}]
def ky3 (tI tB tY:TypeId):O Oper:=[{dst:=some 10,op:= .move (.tmp 0),type:=tY,pos:= "iter.go:28",after:= #[],guard:=none},{dst:=some 11,op:= .move (.tmp 3),type:=tI,pos:= "iter.go:28",after:= #[],guard:=none},
 {dst:=some 12,op:= .call {callee:= .value (.tmp 10),args:= #[.tmp 11],argTypes:= #[tI]},type:=tB,pos:= "iter.go:28",after:= #[{on:=0,ground:= .data},{on:=1,ground:= .data}],guard:=none},
 {dst:=some 13,op:= .unOp .not tB (.tmp 12),type:=tB,pos:= "iter.go:28",after:= #[{on:=2,ground:= .data}],guard:=none}]
def i38 (tM tI tB tY:TypeId):Code:= .seq (.region 0 (ky0 tM).toArray false) (.block 0 (.loop (.seq (.region 1 (ky1 tB).toArray false) (.seq (.cond (.tmp 7) .skip (.exit 0)) (.block 1 (.seq (.region 2 (ky2 tI).toArray false) (.seq (.region 3 (ky3 tI tB tY).toArray false) (.cond (.tmp 13) .ret .skip))))))))
def itO (mb:Nat)(q:Array Nat):Obj:= .mapIter (some mb) 1 q 1
def l3t (x v:Int):Obj:= .map #[{key:= .int .i64 x,val:= .int .i64 v,born:=0}] 1
section
variable {P:Program} {W:World} {ty:TypeId} {mb b:Nat} {x v:Int}
def i2h {t k e:TypeId}(hu:P.underlying t=some (.map k e))(hb:W.heap[mb]? =some (l3t x v)):(Instr.range t (.map (some mb))).run P W= .ok (.pointer (some ⟨W.heap.size,0,none⟩)) (W.alloc (itO mb #[])):=by
 have hb:W.heap[mb]? =some (.map #[{key:= .int .i64 x,val:= .int .i64 v,born:=0}] 1):=hb
 have hg:(getObj mb).run P W= .ok (.map #[{key:= .int .i64 x,val:= .int .i64 v,born:=0}] 1) W:=by simp [getObj,Sem.run,hb]
 simp [Instr.range,run_underlying hu,hg,Result.andThen,itO]
def i3k (hi:W.heap[b]? =some (itO mb #[]))(hb:W.heap[mb]? =some (l3t x v)):(Instr.next (.pointer (some ⟨b,0,none⟩)) false ty).run P W= .ok (.tuple #[.bool true,.int .i64 x,.int .i64 v]) (W.putObj b (itO mb #[0])):=by
 have hi:W.heap[b]? =some (.mapIter (some mb) 1 #[] 1):=hi
 have hb:W.heap[mb]? =some (.map #[{key:= .int .i64 x,val:= .int .i64 v,born:=0}] 1):=hb
 have hg:(getObj b).run P W= .ok (.mapIter (some mb) 1 #[] 1) W:=by simp [getObj,Sem.run,hi]
 have hg2:(getObj mb).run P W= .ok (.map #[{key:= .int .i64 x,val:= .int .i64 v,born:=0}] 1) W:=by simp [getObj,Sem.run,hb]
 have hset:(setObj b (.mapIter (some mb) 1 #[0] 1)).run P W= .ok () (W.putObj b (.mapIter (some mb) 1 #[0] 1)):=by simp [setObj,Sem.run,hi,World.putObj]
 simp [Instr.next,hg,hg2,hset,choose,Sem.run,Question.forced,Question.cut,Result.andThen,itO]
def i3b (hi:W.heap[b]? =some (itO mb #[0]))(hb:W.heap[mb]? =some (l3t x v)):(Instr.next (.pointer (some ⟨b,0,none⟩)) false ty).run P W= .ok (.tuple #[.bool false]) W:=by
 have hi:W.heap[b]? =some (.mapIter (some mb) 1 #[0] 1):=hi
 have hb:W.heap[mb]? =some (.map #[{key:= .int .i64 x,val:= .int .i64 v,born:=0}] 1):=hb
 have hg:(getObj b).run P W= .ok (.mapIter (some mb) 1 #[0] 1) W:=by simp [getObj,Sem.run,hi]
 have hg2:(getObj mb).run P W= .ok (.map #[{key:= .int .i64 x,val:= .int .i64 v,born:=0}] 1) W:=by simp [getObj,Sem.run,hb]
 simp [Instr.next,hg,hg2,choose,Sem.run,Question.forced,Question.cut,Result.andThen]
def i2b (hi:W.heap[b]? =some (itO mb #[0]))(hb:W.heap[mb]? =some (l3t x v)):(Instr.entry (.pointer (some ⟨b,0,none⟩))).run P W= .ok (.tuple #[.int .i64 x,.int .i64 v]) W:=by
 have hi:W.heap[b]? =some (.mapIter (some mb) 1 #[0] 1):=hi
 have hb:W.heap[mb]? =some (.map #[{key:= .int .i64 x,val:= .int .i64 v,born:=0}] 1):=hb
 have hg:(getObj b).run P W= .ok (.mapIter (some mb) 1 #[0] 1) W:=by simp [getObj,Sem.run,hi]
 have hg2:(getObj mb).run P W= .ok (.map #[{key:= .int .i64 x,val:= .int .i64 v,born:=0}] 1) W:=by simp [getObj,Sem.run,hb]
 simp [Instr.entry,hg,hg2,Result.andThen]
end
def i3l {P:Program}{f:FuncId}{fn:Func}{tM tI tB tY tk te:TypeId}(hf:P.funcs[f]? =some fn)(hb:fn.body=some (i38 tM tI tB tY))(hn:fn.ntmps=14)(hres:fn.results= #[])(hM:P.underlying tM=some (.map tk te))
  {l Bs mb B:Nat} {x:Int} (J Jx:Nat -> World -> Prop) (hJ: ∀k W1,J k W1 -> (Instr.loadAt tM (.pointer (some ⟨Bs,0,none⟩))).run P W1= .ok (.map (some mb)) W1 /\ ∃v,W1.heap[mb]? =some (l3t x v)) (hal: ∀k W1 o,J k W1 -> J k (W1.alloc o))
  (hY: ∀k W1,J k W1 -> k<1 -> YieldAt (FR none) 7 P l #[.int .i64 x] W1 fun e W'=>(e= .returned (.bool true) /\ J (k+1) W' /\ c0v B W1 W') \/ (e= .returned (.bool false) /\ Jx (k+1) W'))
  (W:World) (hB:B <= W.heap.size) (h0:J 0 W):CallsIn (FR none) 8 P f #[.func (.yield l) #[] #[],.pointer (some ⟨Bs,0,none⟩)] W fun e W'=>(∃v,e= .returned v) /\ (J 1 W' \/ ∃k,k <= 1 /\ Jx k W'):=by
 refine callsIn_of_wp hf hb trivial ?_ rfl
 have ha:=c9e (n:=14) [Value.func (.yield l) #[] #[],.pointer (some ⟨Bs,0,none⟩)] (by simp)
 rw [show ({tmps:= #[Value.func (.yield l) #[] #[],.pointer (some ⟨Bs,0,none⟩)]++Array.replicate (fn.ntmps-(#[Value.func (.yield l) #[] #[],.pointer (some ⟨Bs,0,none⟩)]:Array A5).size) undef,defers:=[]}:Act)=Frd 14 (fun t=>[Value.func (.yield l) #[] #[],.pointer (some ⟨Bs,0,none⟩)].getD t undef) [] from by rw [hn];exact ha]
 have fin: ∀(ρ:Nat -> A5)(W':World),(J 1 W' \/ ∃k,k <= 1 /\ Jx k W') -> ∃v,(results fn (Frd 14 ρ []).tmps).run P W'= .ok v W' /\ (∃v',Ending.returned v= .returned v') /\ (J 1 W' \/ ∃k,k <= 1 /\ Jx k W'):=fun ρ W' h=>⟨_,by simp [results,hres];rfl,⟨_,rfl⟩,h⟩
 obtain ⟨hl0,v,hm0⟩:=hJ 0 W h0
 have hmb:mb<W.heap.size:=(qN.1 hm0).1
 have hput:(W.alloc (itO mb #[])).putObj W.heap.size (itO mb #[0])=W.alloc (itO mb #[0]):=by
  simp only [World.putObj,World.alloc]
  congr 1
  apply Array.ext_getElem?
  intro k
  simp only [Array.getElem?_setIfInBounds,Array.getElem?_push,Array.size_push]
  split
  ·rename_i e;subst e;simp
  ·rename_i e;rw [if_neg fun h=>e h.symm,if_neg fun h=>e h.symm]
 have hit0:(W.alloc (itO mb #[])).heap[W.heap.size]? =some (itO mb #[]):=World.alloc_heap_new W _
 have hit1:(W.alloc (itO mb #[0])).heap[W.heap.size]? =some (itO mb #[0]):=World.alloc_heap_new W _
 have hm1: ∀o,(W.alloc o).heap[mb]? =some (l3t x v):=fun o=>(Below.heap_alloc _ _ _ hmb).trans hm0
 refine wpIn_seq (wpIn_region ?_)
 show wpOpsIn (FR none) 8 P (ky0 tM).toArray _ [0,1] _ _
 refine a1q rfl rfl rfl rfl (d32 rfl hl0) ?_
 refine g3q rfl rfl rfl rfl (v:= .pointer (some ⟨W.heap.size,0,none⟩)) (w':=W.alloc (itO mb #[])) (by simp [execOp,ev,b20,upd,i2h (P:=P) hM hm0,Result.andThen]) ?_
 refine wpIn_block (wpIn_loop_rounds 2 ?_)
 rw [roundsIn_succ]
 refine wpIn_seq (wpIn_region ?_)
 show wpOpsIn (FR none) 8 P (ky1 tB).toArray _ [0,1] _ _
 refine g3q rfl rfl rfl rfl (v:= .tuple #[.bool true,.int .i64 x,.int .i64 v]) (w':=W.alloc (itO mb #[0])) (by simp [execOp,ev,b20,upd,i3k (P:=P) hit0 (hm1 _),Result.andThen,hput]) ?_
 refine a1q rfl rfl rfl rfl (f1c (v:= .tuple #[.bool true,.int .i64 x,.int .i64 v]) (u:= .bool true) rfl (by kernel_rfl)) ?_
 refine wpIn_seq (wpIn_cond_true (by rw [b75 rfl];rfl) (wpIn_skip ?_))
 refine wpIn_block (wpIn_seq (wpIn_region ?_))
 show wpOpsIn (FR none) 8 P (ky2 tI).toArray _ [0,1,2] _ _
 refine a1q rfl rfl rfl rfl (v:= .tuple #[.int .i64 x,.int .i64 v]) (by simp [YV,execOp,ev,b20,upd,i2b (P:=P) hit1 (hm1 _),Result.andThen]) ?_
 refine a1q rfl rfl rfl rfl (f1c (v:= .tuple #[.int .i64 x,.int .i64 v]) (u:= .int .i64 x) rfl (by kernel_rfl)) ?_
 refine a1q rfl rfl rfl rfl (b7t rfl) ?_
 refine wpIn_seq (wpIn_region ?_)
 show wpOpsIn (FR none) 8 P (ky3 tI tB tY).toArray _ [0,1,2,3] _ _
 refine a1q rfl rfl rfl rfl (c08 (v:= .func (.yield l) #[] #[]) rfl) ?_
 refine a1q rfl rfl rfl rfl (c08 (v:= .int .i64 x) rfl) ?_
 obtain ⟨f',tmps,assign,body,hy,hR⟩:=hY 0 (W.alloc (itO mb #[0])) (hal 0 W _ h0) (by omega)
 refine d87 rfl rfl rfl rfl (fun _ h=>by cases h) (l:=l) (f:=f') (b:=tmps) (assign:=assign) (body:=body) (by simpa [execOp,resolve,ev,b20,upd,Deferred.ofValue,invoke] using hy) hR ?_
 rintro e W2 (⟨rfl,hj2,hkm⟩ | ⟨rfl,hx2⟩)
 ·refine ⟨_,rfl,?_⟩
  refine a1q rfl rfl rfl rfl (f0z (p:=true) (q:=false) rfl rfl) ?_
  refine wpIn_cond_false (by rw [b75 rfl];rfl) (wpIn_skip ?_)
  obtain ⟨_,v2,hm2⟩:=hJ 1 W2 hj2
  have hit2:W2.heap[W.heap.size]? =some (itO mb #[0]):=hkm W.heap.size (some mb) 1 #[0] 1 hB hit1 rfl
  show Code.roundsIn (FR none) 8 P _ _ 1 _ _
  rw [roundsIn_succ]
  refine wpIn_seq (wpIn_region ?_)
  show wpOpsIn (FR none) 8 P (ky1 tB).toArray _ [0,1] _ _
  refine a1q rfl rfl rfl rfl (v:= .tuple #[.bool false]) (by simp [YV,execOp,ev,b20,upd,i3b (P:=P) hit2 hm2,Result.andThen]) ?_
  refine a1q rfl rfl rfl rfl (f1c (v:= .tuple #[.bool false]) (u:= .bool false) rfl (by kernel_rfl)) ?_
  refine wpIn_seq (wpIn_cond_false (by rw [b75 rfl];rfl) (wpIn_exit ?_))
  simp only [Exit.then,Exit.inBlock,if_true]
  exact ⟨rfl,fin _ _ (.inl hj2)⟩
 ·refine ⟨_,rfl,?_⟩
  refine a1q rfl rfl rfl rfl (f0z (p:=false) (q:=true) rfl rfl) ?_
  exact wpIn_cond_true (by rw [b75 rfl];rfl) (wpIn_ret ⟨rfl,fin _ _ (.inr ⟨1,by omega,hx2⟩)⟩)
def l45 {P:Program}{f:FuncId}{fn:Func}{tM tI tB tY tk te:TypeId}(hf:P.funcs[f]? =some fn)(hb:fn.body=some (i38 tM tI tB tY))(hn:fn.ntmps=14)(hres:fn.results= #[])(hM:P.underlying tM=some (.map tk te))
  {l Bs mb:Nat} (J Jx:Nat -> World -> Prop) (hJ: ∀k W1,J k W1 -> (Instr.loadAt tM (.pointer (some ⟨Bs,0,none⟩))).run P W1= .ok (.map (some mb)) W1 /\ W1.heap[mb]? =some (b92 [])) (hal: ∀k W1 o,J k W1 -> J k (W1.alloc o))
  (W:World) (h0:J 0 W):CallsIn (FR none) 8 P f #[.func (.yield l) #[] #[],.pointer (some ⟨Bs,0,none⟩)] W fun e W'=>(∃v,e= .returned v) /\ (J 0 W' \/ ∃k,k <= 0 /\ Jx k W'):=by
 refine callsIn_of_wp hf hb trivial ?_ rfl
 have ha:=c9e (n:=14) [Value.func (.yield l) #[] #[],.pointer (some ⟨Bs,0,none⟩)] (by simp)
 rw [show ({tmps:= #[Value.func (.yield l) #[] #[],.pointer (some ⟨Bs,0,none⟩)]++Array.replicate (fn.ntmps-(#[Value.func (.yield l) #[] #[],.pointer (some ⟨Bs,0,none⟩)]:Array A5).size) undef,defers:=[]}:Act)=Frd 14 (fun t=>[Value.func (.yield l) #[] #[],.pointer (some ⟨Bs,0,none⟩)].getD t undef) [] from by rw [hn];exact ha]
 have fin: ∀(ρ:Nat -> A5)(W':World),(J 0 W' \/ ∃k,k <= 0 /\ Jx k W') -> ∃v,(results fn (Frd 14 ρ []).tmps).run P W'= .ok v W' /\ (∃v',Ending.returned v= .returned v') /\ (J 0 W' \/ ∃k,k <= 0 /\ Jx k W'):=fun ρ W' h=>⟨_,by simp [results,hres];rfl,⟨_,rfl⟩,h⟩
 obtain ⟨hl0,hm0⟩:=hJ 0 W h0
 have hm0:W.heap[mb]? =some (.map #[] 0):=hm0
 have hmb:mb<W.heap.size:=(qN.1 hm0).1
 have hi:(W.alloc (.mapIter (some mb) 0 #[] 0)).heap[W.heap.size]? =some (.mapIter (some mb) 0 #[] 0):=World.alloc_heap_new W _
 have hm1:(W.alloc (.mapIter (some mb) 0 #[] 0)).heap[mb]? =some (.map #[] 0):=(Below.heap_alloc _ _ _ hmb).trans hm0
 have hg0:(getObj mb).run P W= .ok (.map #[] 0) W:=by simp [getObj,Sem.run,hm0]
 have hg1:(getObj W.heap.size).run P (W.alloc (.mapIter (some mb) 0 #[] 0))= .ok (.mapIter (some mb) 0 #[] 0) (W.alloc (.mapIter (some mb) 0 #[] 0)):=by
  unfold getObj
  unfold Sem.run
  rw [hi]
  rfl
 have hg2:(getObj mb).run P (W.alloc (.mapIter (some mb) 0 #[] 0))= .ok (.map #[] 0) (W.alloc (.mapIter (some mb) 0 #[] 0)):=by
  unfold getObj
  unfold Sem.run
  rw [hm1]
  rfl
 have hnx: ∀ty,(Instr.next (.pointer (some ⟨W.heap.size,0,none⟩)) false ty).run P (W.alloc (.mapIter (some mb) 0 #[] 0))= .ok (.tuple #[.bool false]) (W.alloc (.mapIter (some mb) 0 #[] 0)):=fun ty=>by
  simp [Instr.next,hg1,hg2,choose,Sem.run,Question.forced,Question.cut,Result.andThen]
 refine wpIn_seq (wpIn_region ?_)
 show wpOpsIn (FR none) 8 P (ky0 tM).toArray _ [0,1] _ _
 refine a1q rfl rfl rfl rfl (d32 rfl hl0) ?_
 refine g3q rfl rfl rfl rfl (v:= .pointer (some ⟨W.heap.size,0,none⟩)) (w':=W.alloc (.mapIter (some mb) 0 #[] 0)) (by simp [execOp,ev,b20,upd,Instr.range,run_underlying hM,hg0,Result.andThen]) ?_
 refine wpIn_block (wpIn_loop_rounds 1 ?_)
 rw [roundsIn_succ]
 refine wpIn_seq (wpIn_region ?_)
 show wpOpsIn (FR none) 8 P (ky1 tB).toArray _ [0,1] _ _
 refine a1q rfl rfl rfl rfl (v:= .tuple #[.bool false]) (by simp [YV,execOp,ev,b20,upd,hnx,Result.andThen]) ?_
 refine a1q rfl rfl rfl rfl (f1c (v:= .tuple #[.bool false]) (u:= .bool false) rfl (by kernel_rfl)) ?_
 refine wpIn_seq (wpIn_cond_false (by rw [b75 rfl];rfl) (wpIn_exit ?_))
 simp only [Exit.then,Exit.inBlock,if_true]
 exact ⟨rfl,fin _ _ (.inl (hal 0 W _ h0))⟩
section
variable {U:Uni} {P:Program} {Φ:Phi U} {n:Nat}
def bkS (σ σ2:U.St):U.St:=⟨σ.sl,σ2.me,σ2.nx⟩
def i34 (kk:FuncId -> A3 TypeId)(σ:U.St)(t:Tmp):A3 (FuncId×TypeId×Nat×Nat×O (Int×Int)):=match σ.slot t with
 | .clo g [.ref i]=>match kk g,σ.mem i with
   | some tM,.box t' (.ref j)=>match Nat.beq t' tM,σ.mem j with
     | true,.mp l=>some (g,tM,i,j,l)
     | _,_=>none
   | _,_=>none
 | _=>none
def h8r (σ:U.St)(i j:Nat)(tM:TypeId)(x:Int):Bool:=match σ.mem i,σ.mem j with
 | .box t' (.ref j'),.mp [(x',_)]=>Nat.beq t' tM&&Nat.beq j' j&&decide (x'=x)
 | _,_=>false
def l3u {R:Type}(b:Bool)(x:A3 R):A3 R:=match b with | true=>x | false=>none
def l46 {R:Type}(P:Program)(Φ:Phi U)(kk:FuncId -> A3 TypeId):Code -> Ann U.C -> U.St -> Kont U R -> A3 R
 | .seq a b,an,σ,k=>match d0p (.seq a b) with
   | true=>l7u P Φ (.seq a b) an σ k
   | false=>l46 P Φ kk a an.fst σ ⟨fun σ=>l46 P Φ kk b an.snd σ k,k.exit,k.ret⟩
 | .block id a,an,σ,k=>match d0p a with
   | true=>l7u P Φ (.block id a) an σ k
   | false=>l46 P Φ kk a an σ ⟨k.norm,fun i σ=>match Nat.beq i id with | true=>k.norm σ | false=>k.exit i σ,k.ret⟩
 | .rangeFunc it ps as bd,an,σ,k=>match it,ps.toList with
   | .tmp t,[p]=>match i34 kk σ t with
     | some (_,_,_,_,[])=>k.norm σ
     | some (_,tM,i,j,[(x,_)])=>l7u P Φ as an.fst (σ.app (some p) (.int .i64 x) []) ⟨fun σ1=>l7u P Φ bd an.snd σ1 ⟨fun σ2=>l3u (h8r σ2 i j tM x) (k.norm (bkS σ σ2)),fun id σ2=>k.exit id (bkS σ σ2),fun σ2=>k.ret (bkS σ σ2)⟩,fun _ _=>none,fun _=>none⟩
     | _=>none
   | _,_=>none
 | c,an,σ,k=>match d0p c with | true=>l7u P Φ c an σ k | false=>none
structure KeyOK (P:Program) (U:Uni) (g:FuncId) (tM:TypeId):Prop where
 fn: ∃fn tI tB tY tk te,P.funcs[g]? =some fn /\ fn.body=some (i38 tM tI tB tY) /\ fn.ntmps=14 /\ fn.results= #[] /\ P.underlying tM=some (.map tk te)
 enters: ∀args w,(callFunc g args).run P w= .ok (.enter g args) w
 b33: ∀j:Nat,b33 P tM (.ref j:U.AV)=true
def KKS (P:Program)(U:Uni)(kk:FuncId -> A3 TypeId):Prop:= ∀g tM,kk g=some tM -> KeyOK P U g tM
def pinE (E:Env)(Z:Nat -> Prop)(π:Nat -> A5)(σ:U.St)(w:World):Env:=⟨w,fun b=>(E.G b \/ E.w0.heap.size <= b) /\ ¬Z b,Z,b7a σ,π⟩
variable {E:Env} {Z:Nat -> Prop} {π:Nat -> A5} {σ:U.St} {ρ:Nat -> A5} {w:World}
def Rel.pinE (hU:UOK U)(h:Rel E Z π σ ρ w):Rel (pinE E Z π σ w) Z π σ ρ w:=by
 have h1:=h.re hU
 exact ⟨h1.slot,h1.mem,h1.own,h1.dist,h1.zlt,h1.zin,h1.zout,h1.ext,fun id hu=>⟨hu,rfl⟩,h1.tab⟩
def Rel.unP {Z':Nat -> Prop}{π':Nat -> A5}{σ':U.St}{ρ':Nat -> A5}{w':World}(h0:Rel E Z π σ ρ w)(h:Rel (SX.pinE E Z π σ w) Z' π' σ' ρ' w'):Rel E Z' π' σ' ρ' w':=by
 refine ⟨h.slot,h.mem,fun id b hb=> ?_,h.dist,h.zlt,fun b hb=> ?_,fun b hb=>h.zout b (h0.zout b hb),d19 h0.ext h.ext fun x hx=>hx.1,fun id hp=> ?_,h0.tab⟩
 ·obtain ⟨h1,h2,h3⟩:=h.own id b hb
  refine ⟨h1,h2,?_⟩
  rcases h3 with h3 | h3
  ·exact h3.1
  ·exact .inr (Nat.le_trans h0.ext.size h3)
 ·rcases h.zin b hb with h1 | h1 | h1
  ·exact h0.zin b h1
  ·exact .inr h1.1
  ·exact .inr (.inr (Nat.le_trans h0.ext.size h1))
 ·obtain ⟨h1,h2⟩:=h0.pin id hp
  obtain ⟨h3,h4⟩:=h.pin id h1
  exact ⟨h3,h4.trans h2⟩
def Rel.bk {Z':Nat -> Prop}{π':Nat -> A5}{σ':U.St}{ρ':Nat -> A5}{w':World}(h0:Rel E Z π σ ρ w)(h:Rel (SX.pinE E Z π σ w) Z' π' σ' ρ' w'):Rel (SX.pinE E Z π σ w) Z' π' (bkS σ σ') ρ w':=by
 have hcx:cx Z' π' (bkS σ σ') w'=cx Z' π' σ' w':=rfl
 have hle:(cx Z π σ w).Le (cx Z' π' (bkS σ σ') w'):=⟨fun b hb=>h.zout b hb,h.ext.mono fun b hb hz=>hb.2 hz,fun id hu=>h.pin id hu⟩
 exact ⟨fun t=>(h0.slot t).le hle,h.mem,h.own,h.dist,h.zlt,h.zin,h.zout,h.ext,h.pin,h.tab⟩
def h9i (hU:UOK U)(hΦ:OKΦ P Φ)(hm:P.follows .mixedOrders=true){R:Type}{c:Code}{an:Ann U.C}{k:Kont U R}{r:R}(hc:a3z n c=true)(h:l7u P Φ c an σ k=some r)
  {Q:Exit -> (Nat -> A5) -> O Deferred -> World -> Prop} (hk:KOKD E k r Q) (hR:Rel E Z π σ ρ w) {ds:O Deferred} (hD:Dn E Z w ds):WPD P n c Q ρ ds w:=by
 have up: ∀{σ':U.St}{Z' π' ρ' w'},Rel (E.re Z w) Z' π' σ' ρ' w' -> Rel E Z' π' σ' ρ' w' /\ Dn E Z' w' ds:=fun h=>⟨Rel.un hR h,hD.le (fun b hb=>h.zout b hb) (h.ext.mono fun b hb hz=>hb.2 hz)⟩
 have hwp:=l4c hU hΦ hm c an σ k r hc h (fun e ρ' w'=>Q e ρ' ds w')
  ⟨fun σ' Z' π' ρ' w' h1 h2=>hk.norm σ' Z' π' ρ' ds w' (up h1).1 (up h1).2 h2,fun i σ' Z' π' ρ' w' h1 h2=>hk.exit i σ' Z' π' ρ' ds w' (up h1).1 (up h1).2 h2,fun σ' Z' π' ρ' w' h1 h2=>hk.ret σ' Z' π' ρ' ds w' (up h1).1 (up h1).2 h2⟩ Z π ρ w (hR.re hU)
 exact wpIn_mono (hwp none ds (.inl rfl)) fun e a w' ⟨ρ',ha,hq⟩=>⟨ρ',ds,ha,hq⟩
def i1f (hU:UOK U){g:FuncId}{tM:TypeId}(hg:KeyOK P U g tM){i j:Nat}{x v:Int}(h:Rel E Z π σ ρ w)(hi:σ.mem i= .box tM (.ref j))(hj:σ.mem j= .mp [(x,v)]):
  ∃Bs mb,π i= .pointer (some ⟨Bs,0,none⟩) /\ π j= .map (some mb) /\ (Instr.loadAt tM (.pointer (some ⟨Bs,0,none⟩))).run P w= .ok (.map (some mb)) w /\ w.heap[mb]? =some (l3t x v):=by
 have h1:=h.mem i
 rw [hi] at h1
 obtain ⟨Bs,u,hp,hM,hA⟩:=h1
 have h2:=h.mem j
 rw [hj] at h2
 obtain ⟨mb,hv,_,hb⟩:=h2
 have hu:u= .map (some mb):=by rw [<- hv];exact hA.2.1
 subst hu
 exact ⟨Bs,mb,hp,hv,c8g (P:=P) hU (hg.b33 j) hA hM.ca,hb⟩
def i18 {σ:U.St}{i j:Nat}{tM:TypeId}{x:Int}(h:h8r σ i j tM x=true):σ.mem i= .box tM (.ref j) /\ ∃v,σ.mem j= .mp [(x,v)]:=by
 unfold h8r at h
 split at h
 ·rename_i t' j' x' v' h1 h2
  simp only [qB,decide_eq_true_eq] at h
  obtain ⟨⟨e1,e2⟩,e3⟩:=h
  rw [h1,h2,qC e1,qC e2,e3]
  exact ⟨rfl,_,rfl⟩
 ·cases h
def h9o {kk:FuncId -> A3 TypeId}{t:Tmp}{g:FuncId}{tM:TypeId}{i j:Nat}{l:O (Int×Int)}(h:i34 kk σ t=some (g,tM,i,j,l)):σ.slot t= .clo g [.ref i] /\ kk g=some tM /\ σ.mem i= .box tM (.ref j) /\ σ.mem j= .mp l:=by
 unfold i34 at h
 split at h
 ·rename_i g' i' hs
  split at h
  ·rename_i tM' t' j' hk hm
   split at h
   ·rename_i l' hb hmj
    simp only [Option.some.injEq,Prod.mk.injEq] at h
    obtain ⟨rfl,rfl,rfl,rfl,rfl⟩:=h
    exact ⟨hs,hk,by rw [hm,qC hb],hmj⟩
   ·cases h
  ·cases h
 ·cases h
def i2e (hU:UOK U){R:Type}{it p:Tmp}{as bd:Code}{k:Kont U R}{r:R}{g:FuncId}{tM:TypeId}{i j:Nat}
  (hg:KeyOK P U g tM) (hitn:it<n) (hR:Rel E Z π σ ρ w) (hs:σ.slot it= .clo g [.ref i]) (hi:σ.mem i= .box tM (.ref j)) (hj:σ.mem j= .mp [])
  (hden:k.norm σ=some r) {ds:O Deferred} {Q:Exit -> (Nat -> A5) -> O Deferred -> World -> Prop}
  (hQn: ∀σ' Z' π' W D,Rel E Z' π' σ' ρ W -> (∀b,Z b -> Z' b) -> Ext (fun b=> ¬Z b) w W -> w.heap.size <= D -> Z' D -> W.heap[D]? =some (.deferred (some [])) -> k.norm σ'=some r -> Q .normal ρ (e94 D::ds) W):
  (Code.rangeFunc (.tmp it) #[p] as bd).wpIn (FR none) 9 P (fun e a w'=> ∃ρ' ds',a=Frd n ρ' ds' /\ Q e ρ' ds' w') (Frd n ρ ds) w:=by
 have facts: ∀{E:Env}{Z π W},Rel E Z π σ ρ W -> ∃Bs mb,π i= .pointer (some ⟨Bs,0,none⟩) /\ π j= .map (some mb) /\ (Instr.loadAt tM (.pointer (some ⟨Bs,0,none⟩))).run P W= .ok (.map (some mb)) W /\ W.heap[mb]? =some (b92 []):=by
  intro E Z π W h
  have h1:=h.mem i
  rw [hi] at h1
  obtain ⟨Bs,u,hp,hM,hA⟩:=h1
  have h2:=h.mem j
  rw [hj] at h2
  obtain ⟨mb,hv,_,hb⟩:=h2
  have hu:u= .map (some mb):=by rw [<- hv];exact hA.2.1
  subst hu
  exact ⟨Bs,mb,hp,hv,c8g (P:=P) hU (hg.b33 j) hA hM.ca,hb⟩
 obtain ⟨Bs,mb,hpi,hpj,_,_⟩:=facts hR
 have hitv:ρ it= .func (.func g) #[] #[.pointer (some ⟨Bs,0,none⟩)]:=by
  have h1:=hR.slot it
  rw [hs] at h1
  obtain ⟨us,hv,hall⟩:=h1
  match us,hall with
  | [u1],hall=>
    have hu1:u1=π i:=hall.1.2.1
    rw [hv,hu1,hpi]
  | [],hall=>exact hall.elim
  | _::_::_,hall=>exact hall.2.elim
 have hP:=hR.pinE hU
 let I:Nat -> World -> Prop:=fun _ W=> ∃Z0,Rel (SX.pinE E Z π σ w) Z0 π σ ρ W
 have main:=f7x (P:=P) (g:= .tmp it) (ps:= #[p]) (assign:=as) (body:=bd) (Q:=fun e a w'=> ∃ρ' ds',a=Frd n ρ' ds' /\ Q e ρ' ds' w') (a:=Frd n ρ ds) (w:=w) (E:=g) (Y:= #[.pointer (some ⟨Bs,0,none⟩)])
  (by rw [b75 (by simpa [Operand.below] using hitn)];exact hitv) hg.enters (fun _=> #[.int .i64 0]) 0 (fun _=>rfl) I (fun _ _ _=>False) (fun _ _ _=>False) ?hit ?cI (fun _ _=>⟨fun _ _ h=>h.elim,fun _ _ _ _ _ _ _ h=>h.elim⟩) (fun _ _=>⟨fun _ _ h=>h.elim,fun _ _ _ _ _ _ _ h=>h.elim⟩) ⟨Z,hP⟩ (fun _ k _ _ h=>absurd h (Nat.not_lt_zero k)) (fun _ k _ _ _ h=>absurd h (Nat.not_lt_zero k)) ?hdone (fun _ _ _ _ _ _ h=>h.elim)
 ·exact main
 case hit=>
  intro l' J Jx W hBelow hJI hal hY h0
  obtain ⟨fn,tI,tB,tY,tk,te,hf,hb,hnt,hres,hu⟩:=hg.fn
  exact l45 (P:=P) hf hb hnt hres hu J Jx (fun kk W1 hj=>by
   obtain ⟨Z0,h1⟩:=hJI kk W1 hj
   obtain ⟨Bs',mb',q1,q2,q3,q4⟩:=facts h1
   rw [hpi] at q1
   rw [hpj] at q2
   injection q1 with q1
   injection q1 with q1
   injection q1 with q1
   injection q2 with q2
   injection q2 with q2
   subst q1
   subst q2
   exact ⟨q3,q4⟩) hal W h0
 case cI=>
  intro kk
  exact ⟨fun W o ⟨Z0,h1⟩=>⟨Z0,h1.al o⟩,fun W l' o o' hB hl' ho ⟨Z0,h1⟩=>⟨Z0,h1.pu hU hB hl' ho⟩⟩
 case hdone=>
  rintro D W hD ⟨Z1,h1⟩ hWD
  have hRE:=hR.unP h1
  have hfz:=hRE.fzN (fun b=>b=D) fun b hb=>by
   subst hb
   exact ⟨(qN.1 hWD).1,.inr (.inr (Nat.le_trans hR.ext.size hD)),fun id hMB=>by have:=e1y hRE hMB hWD;cases this⟩
  exact ⟨ρ,e94 D::ds,rfl,hQn _ _ _ W D hfz (fun b hb=> .inl (h1.zout b hb)) (h1.ext.mono fun b hb hz=>hb.2 hz) hD (.inr rfl) hWD hden⟩
def i31 (hU:UOK U)(hΦ:OKΦ P Φ)(hm:P.follows .mixedOrders=true){R:Type}{it p:Tmp}{as bd:Code}{a1 a2:Ann U.C}{k:Kont U R}{r:R}{g:FuncId}{tM:TypeId}{i j:Nat}{x v:Int}
  (hg:KeyOK P U g tM) (hcA:a3z n as=true) (hcB:a3z n bd=true) (hna:d0p as=true) (hnb:d0p bd=true) (hitn:it<n)
  (hR:Rel E Z π σ ρ w) (hs:σ.slot it= .clo g [.ref i]) (hi:σ.mem i= .box tM (.ref j)) (hj:σ.mem j= .mp [(x,v)])
  (hden:l7u P Φ as a1 (σ.app (some p) (.int .i64 x) []) ⟨fun σ1=>l7u P Φ bd a2 σ1 ⟨fun σ2=>l3u (h8r σ2 i j tM x) (k.norm (bkS σ σ2)),fun id σ2=>k.exit id (bkS σ σ2),fun σ2=>k.ret (bkS σ σ2)⟩,fun _ _=>none,fun _=>none⟩=some r) {ds:O Deferred} {Q:Exit -> (Nat -> A5) -> O Deferred -> World -> Prop}
  (hQn: ∀σ' Z' π' W D,Rel E Z' π' σ' ρ W -> (∀b,Z b -> Z' b) -> Ext (fun b=> ¬Z b) w W -> w.heap.size <= D -> Z' D -> W.heap[D]? =some (.deferred (some [])) -> k.norm σ'=some r -> Q .normal ρ (e94 D::ds) W)
  (hQe: ∀id σ' Z' π' W D,Rel E Z' π' σ' ρ W -> (∀b,Z b -> Z' b) -> Ext (fun b=> ¬Z b) w W -> w.heap.size <= D -> Z' D -> W.heap[D]? =some (.deferred (some [])) -> k.exit id σ'=some r -> Q (.exit id) ρ (e94 D::ds) W)
  (hQr: ∀σ' Z' π' W D,Rel E Z' π' σ' ρ W -> (∀b,Z b -> Z' b) -> Ext (fun b=> ¬Z b) w W -> w.heap.size <= D -> Z' D -> W.heap[D]? =some (.deferred (some [])) -> k.ret σ'=some r -> Q .ret ρ (e94 D::ds) W):
  (Code.rangeFunc (.tmp it) #[p] as bd).wpIn (FR none) 9 P (fun e a w'=> ∃ρ' ds',a=Frd n ρ' ds' /\ Q e ρ' ds' w') (Frd n ρ ds) w:=by
 obtain ⟨Bs,mb,hpi,hpj,_,_⟩:=i1f hU hg hR hi hj
 have hitv:ρ it= .func (.func g) #[] #[.pointer (some ⟨Bs,0,none⟩)]:=by
  have h1:=hR.slot it
  rw [hs] at h1
  obtain ⟨us,hv,hall⟩:=h1
  match us,hall with
  | [u1],hall=>
    have hu1:u1=π i:=hall.1.2.1
    rw [hv,hu1,hpi]
  | [],hall=>exact hall.elim
  | _::_::_,hall=>exact hall.2.elim
 have hP:=hR.pinE hU
 have hui:b7a σ i:=by unfold b7a;rw [hi];intro h;cases h
 have huj:b7a σ j:=by unfold b7a;rw [hj];intro h;cases h
 have hB1:(SX.pinE E Z π σ w).w0.heap.size <= w.heap.size:=Nat.le_refl _
 let I:Nat -> World -> Prop:=fun kk W=>match kk with
  | 0=> ∃Z0,Rel (SX.pinE E Z π σ w) Z0 π σ ρ W
  | _+1=> ∃σ2 Z' π',Rel (SX.pinE E Z π σ w) Z' π' (bkS σ σ2) ρ W /\ h8r σ2 i j tM x=true /\ k.norm (bkS σ σ2)=some r
 let Ix:Nat -> Code -> World -> Prop:=fun _ cd W=> ∃σ2 Z' π',Rel (SX.pinE E Z π σ w) Z' π' (bkS σ σ2) ρ W /\ ((cd= .ret /\ k.ret (bkS σ σ2)=some r) \/ ∃id,cd= .exit id /\ k.exit id (bkS σ σ2)=some r)
 let Ax:Nat -> Act -> World -> Prop:=fun _ a' W=> ∃ρ1 σ1 Z1 π1,a'=Frd n ρ1 [] /\ Rel (SX.pinE E Z π σ w) Z1 π1 σ1 ρ1 W /\ l7u P Φ bd a2 σ1 ⟨fun σ2=>l3u (h8r σ2 i j tM x) (k.norm (bkS σ σ2)),fun id σ2=>k.exit id (bkS σ σ2),fun σ2=>k.ret (bkS σ σ2)⟩=some r
 have facts: ∀kk W,I kk W -> (Instr.loadAt tM (.pointer (some ⟨Bs,0,none⟩))).run P W= .ok (.map (some mb)) W /\ ∃v,W.heap[mb]? =some (l3t x v):=by
  intro kk W hI
  have fin: ∀{σ':U.St}{Z' π' v'},Rel (SX.pinE E Z π σ w) Z' π' σ' ρ W -> σ'.mem i= .box tM (.ref j) -> σ'.mem j= .mp [(x,v')] -> (Instr.loadAt tM (.pointer (some ⟨Bs,0,none⟩))).run P W= .ok (.map (some mb)) W /\ ∃v,W.heap[mb]? =some (l3t x v):=by
   intro σ' Z' π' v' h1 h2 h3
   obtain ⟨Bs',mb',q1,q2,q3,q4⟩:=i1f hU hg h1 h2 h3
   have e1:π' i=π i:=(h1.pin i hui).2
   have e2:π' j=π j:=(h1.pin j huj).2
   rw [e1,hpi] at q1
   rw [e2,hpj] at q2
   injection q1 with q1
   injection q1 with q1
   injection q1 with q1
   injection q2 with q2
   injection q2 with q2
   subst q1
   subst q2
   exact ⟨q3,v',q4⟩
  cases kk with
  | zero=>obtain ⟨Z0,h1⟩:=hI;exact fin h1 hi hj
  | succ kk=>
    obtain ⟨σ2,Z',π',h1,h2,_⟩:=hI
    obtain ⟨q1,v',q2⟩:=i18 h2
    exact fin h1 q1 q2
 have main:=f7x (P:=P) (g:= .tmp it) (ps:= #[p]) (assign:=as) (body:=bd) (Q:=fun e a w'=> ∃ρ' ds',a=Frd n ρ' ds' /\ Q e ρ' ds' w') (a:=Frd n ρ ds) (w:=w) (E:=g) (Y:= #[.pointer (some ⟨Bs,0,none⟩)])
  (by rw [b75 (by simpa [Operand.below] using hitn)];exact hitv) hg.enters (fun _=> #[.int .i64 x]) 1 (fun _=>rfl) I Ix Ax ?hit ?cI ?cX ?cA ⟨Z,hP⟩ ?hass ?hbody ?hdone ?hstop
 ·exact main
 case hit=>
  intro l' J Jx W hBelow hJI hal hY h0
  obtain ⟨fn,tI,tB,tY,tk,te,hf,hb,hnt,hres,hu⟩:=hg.fn
  exact i3l (P:=P) hf hb hnt hres hu J Jx (fun kk W1 hj=>facts kk W1 (hJI kk W1 hj)) hal hY W hBelow.size h0
 case cI=>
  intro kk
  refine ⟨fun W o h=> ?_,fun W l' o o' hB hl' ho h=> ?_⟩
  ·cases kk with
   | zero=>obtain ⟨Z0,h1⟩:=h;exact ⟨Z0,h1.al o⟩
   | succ kk=>obtain ⟨σ2,Z',π',h1,h2⟩:=h;exact ⟨σ2,Z',π',h1.al o,h2⟩
  ·cases kk with
   | zero=>obtain ⟨Z0,h1⟩:=h;exact ⟨Z0,h1.pu hU hB hl' ho⟩
   | succ kk=>obtain ⟨σ2,Z',π',h1,h2⟩:=h;exact ⟨σ2,Z',π',h1.pu hU hB hl' ho,h2⟩
 case cX=>
  intro kk cd
  exact ⟨fun W o ⟨σ2,Z',π',h1,h2⟩=>⟨σ2,Z',π',h1.al o,h2⟩,fun W l' o o' hB hl' ho ⟨σ2,Z',π',h1,h2⟩=>⟨σ2,Z',π',h1.pu hU hB hl' ho,h2⟩⟩
 case cA=>
  intro kk a'
  exact ⟨fun W o ⟨ρ1,σ1,Z1,π1,e,h1,h2⟩=>⟨ρ1,σ1,Z1,π1,e,h1.al o,h2⟩,fun W l' o o' hB hl' ho ⟨ρ1,σ1,Z1,π1,e,h1,h2⟩=>⟨ρ1,σ1,Z1,π1,e,h1.pu hU hB hl' ho,h2⟩⟩
 case hass=>
  intro l' kk W hI hk
  obtain rfl:kk=0:=by omega
  obtain ⟨Z0,h1⟩:=hI
  have hfr:(((#[p]:Array Tmp).zip #[Value.int .i64 x]).foldl (fun t (p,v)=>t.setIfInBounds p v) (Frd n ρ ds).tmps)=(Frd n (b20 ρ (some p) (.int .i64 x)) []).tmps:=by
   have e1:=congrArg Act.tmps (c6r n ρ ds (some p) (.int .i64 x))
   simp only [Act.put] at e1
   have ez:(#[p]:Array Tmp).zip #[Value.int .i64 x]= #[(p,Value.int .i64 x)]:=by simp
   rw [ez]
   exact e1
  rw [hfr]
  have hr:=h1.recs (B:=w.heap.size) hB1
  have hr2:=hr.re hU
  have hv1:=hr2.val (d:=some p) (a:= .int .i64 x) (v:= .int .i64 x) (Ext.refl noG W) rfl
  have hwp:=l4c hU hΦ hm as a1 _ _ r hcA hden (fun e ρ1 W1=>e= .normal /\ KeepsQ w.heap.size W W1 /\ Ax 0 (Frd n ρ1 []) W1)
   ⟨fun σ' Z' π' ρ1 W1 hR1 h'=>⟨rfl,Rel.keeps hR1 fun b hb=> .inr hb,ρ1,σ',Z',π',rfl,Rel.un hr hR1,h'⟩,(fun i σ' Z' π' ρ1 W1 hR1 h'=>by cases h'),(fun σ' Z' π' ρ1 W1 hR1 h'=>by cases h')⟩ _ _ _ W hv1
  refine e3m (wpIn_mono (hwp (some l') [] (.inr hna)) ?_)
  rintro e a' W1 ⟨ρ1,rfl,rfl,hkq,hax⟩
  exact ⟨hkq,hax⟩
 case hbody=>
  rintro l' kk a' W ⟨ρ1,σ1,Z1,π1,rfl,h1,h2⟩ hk
  have hr:=h1.recs (B:=w.heap.size) hB1
  have hr2:=hr.re hU
  have hwp:=l4c hU hΦ hm bd a2 _ _ r hcB h2 (fun e ρ2 W2=>g9r w.heap.size (I (kk+1)) (Ix (kk+1)) W e (Frd n ρ []) W2)
   ⟨fun σ' Z' π' ρ2 W2 hR2 h'=> ?_,fun id σ' Z' π' ρ2 W2 hR2 h'=> ?_,fun σ' Z' π' ρ2 W2 hR2 h'=> ?_⟩ _ _ _ W hr2
  ·refine e3m (wpIn_mono (hwp (some l') [] (.inr hnb)) ?_)
   rintro e a' W1 ⟨ρ2,rfl,hq⟩
   cases e<;>exact hq
  ·have h':l3u (h8r σ' i j tM x) (k.norm (bkS σ σ'))=some r:=h'
   cases hsk:h8r σ' i j tM x with
   | false=>rw [hsk] at h';cases h'
   | true=>
     rw [hsk] at h'
     exact ⟨Rel.keeps hR2 fun b hb=> .inr hb,σ',Z',π',hR.bk (Rel.un hr hR2),hsk,h'⟩
  ·exact ⟨Rel.keeps hR2 fun b hb=> .inr hb,σ',Z',π',hR.bk (Rel.un hr hR2),.inr ⟨id,rfl,h'⟩⟩
  ·exact ⟨Rel.keeps hR2 fun b hb=> .inr hb,σ',Z',π',hR.bk (Rel.un hr hR2),.inl ⟨rfl,h'⟩⟩
 case hdone=>
  rintro D W hD ⟨σ2,Z1,π1,h1,_,h3⟩ hWD
  have hRE:=hR.unP h1
  have hfz:=hRE.fzN (fun b=>b=D) fun b hb=>by
   subst hb
   exact ⟨(qN.1 hWD).1,.inr (.inr (Nat.le_trans hR.ext.size hD)),fun id hMB=>by have:=e1y hRE hMB hWD;cases this⟩
  exact ⟨ρ,e94 D::ds,rfl,hQn _ _ _ W D hfz (fun b hb=> .inl (h1.zout b hb)) (h1.ext.mono fun b hb hz=>hb.2 hz) hD (.inr rfl) hWD h3⟩
 case hstop=>
  rintro D kk cd W hD hk ⟨σ2,Z1,π1,h1,h3⟩ hWD
  have hRE:=hR.unP h1
  have hfz:=hRE.fzN (fun b=>b=D) fun b hb=>by
   subst hb
   exact ⟨(qN.1 hWD).1,.inr (.inr (Nat.le_trans hR.ext.size hD)),fun id hMB=>by have:=e1y hRE hMB hWD;cases this⟩
  rcases h3 with ⟨rfl,h3⟩ | ⟨id,rfl,h3⟩
  ·exact wpIn_ret ⟨ρ,e94 D::ds,rfl,hQr _ _ _ W D hfz (fun b hb=> .inl (h1.zout b hb)) (h1.ext.mono fun b hb hz=>hb.2 hz) hD (.inr rfl) hWD h3⟩
  ·exact wpIn_exit ⟨ρ,e94 D::ds,rfl,hQe id _ _ _ W D hfz (fun b hb=> .inl (h1.zout b hb)) (h1.ext.mono fun b hb hz=>hb.2 hz) hD (.inr rfl) hWD h3⟩
end
section
variable {U:Uni} {P:Program} {Φ:Phi U} {n:Nat}
def i02 (hU:UOK U)(hΦ:OKΦ P Φ)(hm:P.follows .mixedOrders=true){kk:FuncId -> A3 TypeId}(hkk:KKS P U kk){R:Type}: ∀(c:Code)(an:Ann U.C)(σ:U.St)(k:Kont U R)(r:R),f3a n c=true -> l46 P Φ kk c an σ k=some r -> ∀(E:Env) Q,KOKD E k r Q -> ∀Z π ρ ds w,Rel E Z π σ ρ w -> Dn E Z w ds -> WPD P n c Q ρ ds w:=by
 intro c
 have plain: ∀(c:Code)(an:Ann U.C)(σ:U.St)(k:Kont U R)(r:R),a3z n c=true -> (match d0p c with | true=>l7u P Φ c an σ k | false=>none)=some r -> ∀(E:Env) Q,KOKD E k r Q -> ∀Z π ρ ds w,Rel E Z π σ ρ w -> Dn E Z w ds -> WPD P n c Q ρ ds w:=by
  intro c an σ k r hc h E Q hk Z π ρ ds w hR hD
  split at h
  ·exact h9i hU hΦ hm hc h hk hR hD
  ·cases h
 induction c with
 | seq a b iha ihb=>
   intro an σ k r hc h E Q hk Z π ρ ds w hR hD
   simp only [l46] at h
   simp only [f3a] at hc
   cases hn:d0p (.seq a b) with
   | true=>rw [hn] at h hc;exact h9i hU hΦ hm hc h hk hR hD
   | false=>
     rw [hn] at h hc
     simp only [qB] at hc
     refine wpIn_seq (wpIn_mono (iha an.fst σ _ r hc.1 h E (h3s (WPD P n b Q) Q) ⟨fun σ' Z' π' ρ' ds' w' h1 h2 h3=>ihb an.snd σ' k r hc.2 h3 E Q hk Z' π' ρ' ds' w' h1 h2,fun i σ' Z' π' ρ' ds' w' h1 h2 h3=>hk.exit i σ' Z' π' ρ' ds' w' h1 h2 h3,fun σ' Z' π' ρ' ds' w' h1 h2 h3=>hk.ret σ' Z' π' ρ' ds' w' h1 h2 h3⟩ Z π ρ ds w hR hD) ?_)
     rintro e a' w' ⟨ρ',ds',rfl,hq⟩
     cases e<;>first | exact hq | exact ⟨ρ',ds',rfl,hq⟩
 | block id a iha=>
   intro an σ k r hc h E Q hk Z π ρ ds w hR hD
   simp only [l46] at h
   simp only [f3a] at hc
   cases hn:d0p a with
   | true=>
     rw [hn] at h hc;exact h9i hU hΦ hm hc h hk hR hD
   | false=>
     rw [hn] at h hc
     refine wpIn_block (wpIn_mono (iha an σ _ r hc h E (g0k id Q) ⟨fun σ' Z' π' ρ' ds' w' h1 h2 h3=>hk.norm σ' Z' π' ρ' ds' w' h1 h2 h3,fun i σ' Z' π' ρ' ds' w' h1 h2 h3=> ?_,fun σ' Z' π' ρ' ds' w' h1 h2 h3=>hk.ret σ' Z' π' ρ' ds' w' h1 h2 h3⟩ Z π ρ ds w hR hD) ?_)
     ·show (if i=id then Q .normal ρ' ds' w' else Q (.exit i) ρ' ds' w')
      have h3:(match Nat.beq i id with | true=>k.norm σ' | false=>k.exit i σ')=some r:=h3
      cases hb:Nat.beq i id with
      | true=>rw [hb] at h3;rw [if_pos (qC hb)];exact hk.norm σ' Z' π' ρ' ds' w' h1 h2 h3
      | false=>rw [hb] at h3;rw [if_neg (Nat.ne_of_beq_eq_false hb)];exact hk.exit i σ' Z' π' ρ' ds' w' h1 h2 h3
     ·rintro e a' w' ⟨ρ',ds',rfl,hq⟩
      cases e<;>first
       | exact ⟨ρ',ds',rfl,hq⟩
       | (rename_i id'
          simp only [g0k,Exit.inBlock] at hq⊢
          by_cases hid:id'=id
          ·simp only [hid,if_true] at hq ⊢; exact ⟨ρ',ds',rfl,hq⟩
          ·simp only [hid,if_false] at hq ⊢; exact ⟨ρ',ds',rfl,hq⟩)
 | rangeFunc it ps as bd _ _=>
   intro an σ k r hc h E Q hk Z π ρ ds w hR hD
   simp only [l46] at h
   split at h
   ·rename_i t p hps
    split at h
    ·rename_i g tM i j hko
     obtain ⟨hs,hg,hi,hj⟩:=h9o hko
     simp only [f3a,qB,decide_eq_true_eq] at hc
     have hps':ps= #[p]:=Array.toList_inj.1 hps
     subst hps'
     have dsl: ∀(D:Nat),w.heap.size <= D -> ∀D'∈ds,D'≠e94 D:=by
      obtain ⟨Ds,rfl,_,hDs⟩:=hD
      intro D hge D' hm e
      obtain ⟨D0,h0,rfl⟩:=List.mem_map.1 hm
      have:=(qN.1 (hDs D0 h0).2.2).1
      have e1:D0=D:=by
       unfold e94 at e
       injection e with e _
       injection e
      omega
     refine i2e hU (hkk g tM hg) hc.1 hR hs hi hj h ?_
     intro σ' Z' π' W D h1 hz hE hge hzD hWD hk'
     exact hk.norm σ' Z' π' ρ _ W h1 ((hD.le hz hE).cons hzD (Nat.le_trans hR.ext.size hge) hWD (dsl D hge)) hk'
    ·rename_i g tM i j x v hko
     obtain ⟨hs,hg,hi,hj⟩:=h9o hko
     simp only [f3a,qB,decide_eq_true_eq] at hc
     have hps':ps= #[p]:=Array.toList_inj.1 hps
     subst hps'
     have dsl: ∀(D:Nat),w.heap.size <= D -> ∀D'∈ds,D'≠e94 D:=by
      obtain ⟨Ds,rfl,_,hDs⟩:=hD
      intro D hge D' hm e
      obtain ⟨D0,h0,rfl⟩:=List.mem_map.1 hm
      have:=(qN.1 (hDs D0 h0).2.2).1
      have e1:D0=D:=by
       unfold e94 at e
       injection e with e _
       injection e
      omega
     refine i31 hU hΦ hm (hkk g tM hg) hc.2.1.1 hc.2.1.2 hc.2.2.1 hc.2.2.2 hc.1 hR hs hi hj h ?_ ?_ ?_
     ·intro σ' Z' π' W D h1 hz hE hge hzD hWD hk'
      exact hk.norm σ' Z' π' ρ _ W h1 ((hD.le hz hE).cons hzD (Nat.le_trans hR.ext.size hge) hWD (dsl D hge)) hk'
     ·intro id σ' Z' π' W D h1 hz hE hge hzD hWD hk'
      exact hk.exit id σ' Z' π' ρ _ W h1 ((hD.le hz hE).cons hzD (Nat.le_trans hR.ext.size hge) hWD (dsl D hge)) hk'
     ·intro σ' Z' π' W D h1 hz hE hge hzD hWD hk'
      exact hk.ret σ' Z' π' ρ _ W h1 ((hD.le hz hE).cons hzD (Nat.le_trans hR.ext.size hge) hWD (dsl D hge)) hk'
    ·cases h
   ·cases h
 | skip=>exact fun an σ k r hc h=>plain _ an σ k r hc h
 | region id ops draw=>exact fun an σ k r hc h=>plain _ an σ k r hc h
 | cond c a b _ _=>exact fun an σ k r hc h=>plain _ an σ k r hc h
 | loop a _=>exact fun an σ k r hc h=>plain _ an σ k r hc h
 | exit id=>exact fun an σ k r hc h=>plain _ an σ k r hc h
 | scope a _=>exact fun an σ k r hc h=>plain _ an σ k r hc h
 | label l=>exact fun an σ k r hc h=>plain _ an σ k r hc h
 | goto l=>exact fun an σ k r hc h=>plain _ an σ k r hc h
 | ret=>exact fun an σ k r hc h=>plain _ an σ k r hc h
 | refuse s=>exact fun an σ k r hc h=>plain _ an σ k r hc h
def krun (P:Program)(Φ:Phi U)(kk:FuncId -> A3 TypeId)(fn:Func)(an:Ann U.C)(as:O U.AV)(got:O (Nat×U.MC))(nx:Nat):A3 (U.AV×U.St):=match fn.body with
 | some c=>l46 P Φ kk c an ⟨l88 0 as,got,nx⟩ ⟨fun σ=>m2y P fn σ,fun _ _=>none,fun σ=>m2y P fn σ⟩
 | none=>none
def l3v (P:Program)(Φ:Phi U)(kk:FuncId -> A3 TypeId)(fn:Func)(an:Ann U.C)(fr:Nat)(as:O U.AV):U.Q:=match Nat.ble as.length fn.ntmps with
 | true=>l5i (fun got=> .opt (krun P Φ kk fn an as got (fr+16)) fun p=> .opt (m1y got fr p) fun q=>g6x q.2.2 (.done q.1 q.2.1)) 1000 (as.flatMap l8a) []
 | false=> .fail
def i2m (fn:Func):Bool:=fn.body.isSome&&(f3a fn.ntmps (fn.body.getD .skip)&&c1m fn.ntmps fn.results.toList)
def i0j (hU:UOK U)(hm:P.follows .mixedOrders=true)(hΦ:OKΦ P Φ){kk:FuncId -> A3 TypeId}(hkk:KKS P U kk){f:FuncId}{fn:Func}{an:Ann U.C}(hf:P.funcs[f]? =some fn)(hcall:b44 P f)(hc:i2m fn=true):d6v P f (l3v P Φ kk fn an):=by
 refine ⟨hcall,fun E Z π σ ρ w fr as us m0 m v ws hR has hev=> ?_⟩
 unfold l3v at hev
 split at hev
 case h_2=>exact hev.elim
 rename_i hle
 have hlen:us.length <= fn.ntmps:=by rw [<- y7.length has];exact qW hle
 obtain ⟨got,m1,hev,g1,g2,g3⟩:=l5g _ _ _ hev (fun id x h=>by cases h) (fun id x h=>by cases h)
 obtain ⟨p,hp,q,hq,hev⟩:=hev
 obtain ⟨hnev,m2,_,rfl,rfl⟩:=d4r hev
 unfold i2m at hc
 simp only [qB] at hc
 unfold krun at hp
 split at hp
 case h_2=>cases hp
 rename_i c hb
 have hc1:f3a fn.ntmps c=true:=by have:=hc.2.1;rw [hb] at this;exact this
 refine callsIn_wide.1 (callsIn_of_wp_marks (F:=Fence.wide) (n:=9) hf hb trivial ?_ rfl)
 rw [c9e (n:=fn.ntmps) us hlen]
 have leave: ∀{σ':U.St}{Z' π' ρ' ds' w'},Rel (m52 Z π got w) Z' π' σ' ρ' w' -> Dn (m52 Z π got w) Z' w' ds' -> m2y P fn σ'=some p ->
   LeavesInM Fence.wide 9 P fn (Frd fn.ntmps ρ' ds').tmps (fun e w''=> ∃u,e= .returned u /\ ∀d:A3 Tmp,∃Z2 π2,Rel E Z2 π2 (σ.app d q.1 q.2.1) (b20 ρ d u) w'') ds' .returning w':=by
  intro σ' Z' π' ρ' ds' w' h1 hD h3
  obtain ⟨Ds,rfl,hn,hDs⟩:=hD
  refine d2f hU (fun w2 h2=> ?_) Ds w' h1 hn fun D hm=>⟨(hDs D hm).2.1,(hDs D hm).2.2⟩
  obtain ⟨v,hv,e,ha⟩:=l9i hU h2 hc.2.2 h3
  obtain ⟨pa,ps⟩:=p
  have e:ps=σ':=e
  subst e
  exact ⟨v,hv,v,rfl,fun d=>hR.back g1 h2 ha hq hnev d⟩
 have hw:=i02 hU hΦ hm hkk c an _ _ p hc1 hp (m52 Z π got w)
  (fun e ρ' ds' w'=>(e= .normal \/ e= .ret) /\ LeavesInM Fence.wide 9 P fn (Frd fn.ntmps ρ' ds').tmps (fun e w''=> ∃u,e= .returned u /\ ∀d:A3 Tmp,∃Z2 π2,Rel E Z2 π2 (σ.app d q.1 q.2.1) (b20 ρ d u) w'') ds' .returning w')
  ⟨fun σ' Z' π' ρ' ds' w' h1 h2 h3=>⟨.inl rfl,leave h1 h2 h3⟩,fun i σ' Z' π' ρ' ds' w' h1 h2 h3=>(by cases h3),fun σ' Z' π' ρ' ds' w' h1 h2 h3=>⟨.inr rfl,leave h1 h2 h3⟩⟩ Z π _ [] w (hR.sub hU g1 g2 has (fun id hid=>g3 id (.inr hid)) _) ⟨[],rfl,List.nodup_nil,fun D h=>by cases h⟩
 refine wpIn_mono hw ?_
 rintro e a w' ⟨ρ',ds',rfl,he,hl⟩
 rcases he with rfl | rfl<;>exact hl
def m0o (P:Program)(tb:FuncId -> A3 (Func×Ann U.C))(kk:FuncId -> A3 TypeId)(Φ:Phi U):Nat -> Phi U
 | 0=>Φ
 | n+1=>fun f as=>match Φ f as with
   | some fe=>some fe
   | none=>match tb f with
     | some (fn,an)=>some ⟨⟨[],[]⟩,Unit,fun _=>none,fun _=>((),()),some (.qy (l3v P (m0o P tb kk Φ n) kk fn an))⟩
     | none=>none
def TBK (P:Program)(tb:FuncId -> A3 (Func×Ann U.C)):Prop:= ∀f fn an,tb f=some (fn,an) -> P.funcs[f]? =some fn /\ b44 P f /\ i2m fn=true
def i0h (hU:UOK U)(hm:P.follows .mixedOrders=true){tb:FuncId -> A3 (Func×Ann U.C)}(htb:TBK P tb){kk:FuncId -> A3 TypeId}(hkk:KKS P U kk)(hΦ:OKΦ P Φ): ∀n,OKΦ P (m0o P tb kk Φ n)
 | 0=>hΦ
 | n+1=>fun f as fe h=>by
   simp only [m0o] at h
   split at h
   ·rename_i fe' hfe
    cases h
    exact hΦ f as _ hfe
   ·split at h
    ·rename_i fn an ht
     cases h
     obtain ⟨h1,h2,h3⟩:=htb f fn an ht
     exact i0j hU hm (i0h hU hm htb hkk hΦ n) hkk h1 h2 h3
    ·cases h
def lkTK:O (Nat×Func×Ann U.C) -> FuncId -> A3 (Func×Ann U.C):=fun l f=>lk f l
def l72 (P:Program):O (Nat×Func×Ann U.C) -> Prop
 | []=>True
 | q::l=>(P.funcs[q.1]? =some q.2.1 /\ (i2m q.2.1&& !q.2.1.name== "runtime.NumGoroutine")=true) /\ l72 P l
def i1y: ∀{l:O (Nat×Func×Ann U.C)},l72 P l -> TBK P (lkTK l)
 | [],_,f,fn,an,h=>by cases h
 | (i,q)::l,hl,f,fn,an,h=>by
   have h:lk f ((i,q)::l)=some (fn,an):=h
   rw [d3g] at h
   by_cases e:i=f
   ·subst e
    rw [if_pos rfl] at h
    obtain rfl:=qH h
    obtain ⟨h1,h2⟩:=hl.1
    simp only [qB] at h2
    have hb:fn.body.isSome=true:=by have:=h2.1;unfold i2m at this;simp only [qB] at this;exact this.1
    refine ⟨h1,fun args w=> ?_,h2.1⟩
    have h3:(fn.name== "runtime.NumGoroutine")=false:=by simpa using h2.2
    have h4:fn.body.isNone=false:=by cases h:fn.body with
     | none=>rw [h] at hb;cases hb
     | some c=>rfl
    unfold callFunc
    change Sem.run P (match P.funcs[i]? with | none=>_ | some fn=>_) w=_
    rw [h1]
    simp only [h3,h4]
    rfl
   ·rw [if_neg e] at h
    exact i1y hl.2 f fn an h
def i39 (hU:UOK U)(hm:P.follows .mixedOrders=true)(hΦ:OKΦ P Φ){kk:FuncId -> A3 TypeId}(hkk:KKS P U kk){f:FuncId}{fn:Func}{an:Ann U.C}(hf:P.funcs[f]? =some fn)(hcall:b44 P f)(hc:i2m fn=true){c:U.C}{x:U.T c}{e:Bool}(hx:(inj c x:U.AV)= .bool e)
  (hrun:((l3v P Φ kk fn an 0 []).eval (⟨[],[],0⟩:U.St) 0 fun _ v _=>match v with | .bool b=>some b | _=>none)=some e):Spec P f (⟨⟨[],[.v c]⟩,U.T c,fun _=>some x,w1,none⟩:Fent U):=by
 intro xs b hr Z G w us hlen hR
 obtain rfl:us=[]:=eq_nil_of_length_eq_zero hlen
 obtain rfl:x=b:=qH hr
 obtain ⟨m,v,ws,hev,hv⟩:=c8x hrun
 have hq:=(i0j hU hm hΦ hkk hf hcall hc).2 _ Z _ (⟨[],[],0⟩:U.St) _ w 0 [] [] 0 m v ws hR trivial hev
 refine hq.mono fun e' w' ⟨u,he,hP⟩=>⟨u,he,?_⟩
 obtain ⟨Z',π',h'⟩:=hP (some 0)
 have hs:=h'.slot 0
 rw [s9,c9j,if_pos rfl,if_pos rfl] at hs
 split at hv
 ·cases hv
  have hs:u= .bool e:=hs
  refine ⟨⟨Z',[u],[],rfl,h'.zout,fun b hb=> ?_,h'.ext,rfl,fun _ _ _ _=>rfl,⟨(show a1p _ (inj c x:U.AV) u by rw [hx];exact hs),trivial⟩,trivial,(fun v hv=>by cases hv),fun i j v v' b _ hv=>by cases hv⟩⟩
  rcases h'.zin b hb with h1 | h1 | h1
  ·exact .inl h1
  ·exact .inr (.inl h1)
  ·exact .inr (.inr ⟨h1,h'.zlt b hb⟩)
 ·cases hv
def l9v (P:Program)(Φ:Phi U)(kk:FuncId -> A3 TypeId)(s:Sig U){B:Type}(un:Ress U s.rs×Outs U s.ps -> B)(fn:Func)(an:Ann U.C)(x:Args U s.ps):A3 B:=match fn.body with
 | some c=>l46 P Φ kk c an (a02 0 s.ps x) ⟨fun σ=>unK un (e61 P s fn.results.toList σ),fun _ _=>none,fun σ=>unK un (e61 P s fn.results.toList σ)⟩
 | none=>none
def i09 (hU:UOK U)(hm:P.follows .mixedOrders=true)(hΦ:OKΦ P Φ){kk:FuncId -> A3 TypeId}(hkk:KKS P U kk){f:FuncId}{fn:Func}{an:Ann U.C}{s:Sig U}{B:Type}{wr:B -> Ress U s.rs×Outs U s.ps}(un:Ress U s.rs×Outs U s.ps -> B)(hf:P.funcs[f]? =some fn)(hc:e9k fn s=true)
  (x0:Args U s.ps) (b0:B) (t:Args U s.ps -> Bool) (ht: ∀x,t x=true -> x=x0) (hun: ∀p,wr (un p)=p) (hd:l9v P Φ kk s un fn an x0=some b0):Spec P f (⟨s,B,fun x=>if t x=true then some b0 else none,wr,none⟩:Fent U):=by
 intro xs b hr Z G w us hlen hR
 obtain ⟨hb,hc⟩:=d1o hc
 simp only [qB,decide_eq_true_eq] at hc
 have hmi:c2u s.ps 0 s.ps=true:=by
  have h9:=hc.2.2
  unfold b4o at h9
  simp only [qB] at h9
  exact h9.1
 have hr:(if t xs=true then some b0 else none)=some b:=hr
 split at hr
 case isFalse=>cases hr
 rename_i htx
 obtain rfl:=qH hr
 obtain rfl:=ht xs htx
 unfold l9v at hd
 rw [hb] at hd
 have hret: ∀{σ:U.St},unK un (e61 P s fn.results.toList σ)=some b0 -> e61 P s fn.results.toList σ=some (wr b0):=fun {σ} h=>by
  unfold unK at h
  split at h
  ·rename_i p hp
   cases h
   rw [hp,hun]
  ·cases h
 refine callsIn_wide.1 (callsIn_of_wp_marks (F:=Fence.wide) (n:=9) hf hb trivial ?_ rfl)
 have hlt:(us.take (npK s.ps)).length <= fn.ntmps:=by rw [List.length_take];exact Nat.le_trans (Nat.min_le_left _ _) hc.2.1
 rw [c9e (n:=fn.ntmps) (us.take (npK s.ps)) hlt]
 have leave: ∀{σ':U.St}{Z' π' ρ' ds' w'},Rel ⟨w,G,Z,c0f s.ps,c7a us⟩ Z' π' σ' ρ' w' -> Dn ⟨w,G,Z,c0f s.ps,c7a us⟩ Z' w' ds' -> unK un (e61 P s fn.results.toList σ')=some b0 ->
   LeavesInM Fence.wide 9 P fn (Frd fn.ntmps ρ' ds').tmps (fun e w''=> ∃u,e= .returned u /\ Post s Z G w us (wr b0) u w'') ds' .returning w':=by
  intro σ' Z' π' ρ' ds' w' h1 hD h3
  obtain ⟨Ds,rfl,hn,hDs⟩:=hD
  exact d2f hU (fun w2 h2=>by
   obtain ⟨v,hv,hp⟩:=c2g hU hlen hmi h2 hc.1.2 (hret h3)
   exact ⟨v,hv,v,rfl,hp⟩) Ds w' h1 hn fun D hm=>⟨(hDs D hm).2.1,(hDs D hm).2.2⟩
 have hw:=i02 hU hΦ hm hkk _ an _ _ b0 hc.1.1 hd ⟨w,G,Z,c0f s.ps,c7a us⟩
  (fun e ρ' ds' w'=>(e= .normal \/ e= .ret) /\ LeavesInM Fence.wide 9 P fn (Frd fn.ntmps ρ' ds').tmps (fun e w''=> ∃u,e= .returned u /\ Post s Z G w us (wr b0) u w'') ds' .returning w')
  ⟨fun σ' Z' π' ρ' ds' w' h1 h2 h3=>⟨.inl rfl,leave h1 h2 h3⟩,fun i σ' Z' π' ρ' ds' w' h1 h2 h3=>(by cases h3),fun σ' Z' π' ρ' ds' w' h1 h2 h3=>⟨.inr rfl,leave h1 h2 h3⟩⟩ Z _ _ [] w hR ⟨[],rfl,List.nodup_nil,fun D h=>by cases h⟩
 refine wpIn_mono hw ?_
 rintro e a w' ⟨ρ',ds',rfl,he,hl⟩
 rcases he with rfl | rfl<;>exact hl
end
section
variable {U:Uni} {P:Program} {Φ:Phi U}
@[reducible] def LsT (U:Uni):O (Nat×TypeId×U.C) -> Type
  | []=>Unit
  | q::m=>O (U.T q.2.2)×LsT U m
def i2p {C:Type}:Nat -> O (Nat×TypeId×C) -> O (Nat×Nat)
 | _,[]=>[]
 | fr,q::m=>(q.1,fr)::i2p (fr+1) m
def m0d {C:Type}:Nat -> O (Nat×TypeId×C) -> O Nat
 | _,[]=>[]
 | fr,_::m=>fr::m0d (fr+1) m
def i2o:(fr:Nat) -> (m:O (Nat×TypeId×U.C)) -> LsT U m -> O (Nat×U.MC)
 | _,[],_=>[]
 | fr,q::m,x=>(fr,.sl q.2.1 q.2.2 x.1)::i2o (fr+1) m x.2
def m04 (σ:U.St)(fs:O U.AV):(b7a:O Nat) -> (m:O (Nat×TypeId×U.C)) -> A3 (LsT U m)
 | _,[]=>some ()
 | us,q::m=>match c71 fs q.1 with
   | some j=>(match us.any (Nat.beq j),σ.mem j with
     | false,.sl e c l=>(match Nat.beq q.2.1 e,b8i q.2.2 l with
       | true,some l=>d0u (some l) (m04 σ fs (j::us) m)
       | _,_=>none)
     | _,_=>none)
   | none=>none
def m06 (P:Program)(fn:Func)(c:U.C)(m:O (Nat×TypeId×U.C))(σ:U.St):A3 (U.T c×LsT U m):=match m4p P σ fn.results.toList with
 | some [.st c' fs]=>(match eqC c c' with
   | true=>d0u (U.mkv c (d0v (i2p 0 m) fs)) (m04 σ fs [] m)
   | false=>none)
 | _=>none
def denO (P:Program)(Φ:Phi U)(fn:Func)(an:Ann U.C)(cp c:U.C)(m:O (Nat×TypeId×U.C))(l:O (U.T cp)):A3 (U.T c×LsT U m):=match fn.body with
 | some cd=>den P Φ [] cd an ⟨[(0,.list cp l)],[],1⟩ ⟨fun σ=>m06 P fn c m σ,fun _ _=>none,fun σ=>m06 P fn c m σ⟩
 | none=>none
def m0k (cp c:U.C)(m:O (Nat×TypeId×U.C))(F:O (U.T cp) -> A3 (U.T c×LsT U m))(fr:Nat)(as:O U.AV):U.Q:=match as with
 | [.list _ l]=>(match b8i cp l with
   | some l=> .opt (F l) fun b=>g6x (m0d fr m) (.done (.st c (b8h (i2p fr m) (U.flds c b.1))) (i2o fr m b.2))
   | none=> .fail)
 | _=> .fail
def i1e: ∀(m:O (Nat×TypeId×U.C))(a b:Nat)(fs:O U.AV),d0v (i2p a m) fs=d0v (i2p b m) fs
 | [],_,_,_=>rfl
 | q::m,a,b,fs=>by simp only [i2p,d0v];rw [i1e m (a+1) (b+1) fs]
def i21: ∀(m:O (Nat×TypeId×U.C))(fr f id:Nat),(f,id)∈i2p fr m -> ∃k q,m[k]? =some q /\ f=q.1 /\ id=fr+k
 | [],_,_,_,h=>by cases h
 | q::m,fr,f,id,h=>by
   rcases qO.1 h with h | h
   ·simp only [Prod.mk.injEq] at h
    exact ⟨0,q,rfl,h.1,h.2⟩
   ·obtain ⟨k,q',h1,h2,h3⟩:=i21 m (fr+1) f id h
    exact ⟨k+1,q',h1,h2,by omega⟩
def i1u: ∀(m:O (Nat×TypeId×U.C))(fr k:Nat),k<m.length -> fr+k∈m0d fr m
 | [],_,k,h=>by cases h
 | q::m,fr,0,h=>qI
 | q::m,fr,k+1,h=>by
   have:=i1u m (fr+1) k (by simpa using h)
   rw [show fr+1+k=fr+(k+1) by omega] at this
   exact qJ _ this
def i11 (σ:U.St)(fs:O U.AV): ∀(m:O (Nat×TypeId×U.C))(us:O Nat)(ls:LsT U m),m04 σ fs us m=some ls ->
  ∃js:O Nat,js.length=m.length /\ (∀(i:Nat) q,m[i]? =some q -> ∃j,js[i]? =some j /\ c71 fs q.1=some j) /\ js.Nodup /\ (∀j∈js,j∉us) /\
   (∀fr id mc,lk id (i2o fr m ls)=some mc -> ∃i j,js[i]? =some j /\ id=fr+i /\ σ.mem j=mc /\ ∃e c l,mc= .sl e c l) /\ ∀fr k,k<m.length -> ∃mc,lk (fr+k) (i2o fr m ls)=some mc
 | [],us,ls,_=>⟨[],rfl,fun i q h=>by simp at h,List.nodup_nil,fun j h=>(by cases h),fun fr id mc h=>(by cases h),fun fr k h=>(by cases h)⟩
 | q::m,us,(l,ls),h=>by
   simp only [m04] at h
   split at h
   case h_2=>cases h
   rename_i j hj
   split at h
   case h_2=>cases h
   rename_i e c l0 hu hm
   split at h
   case h_2=>cases h
   rename_i l1 he hl
   obtain ⟨h1,h2⟩:=a2k h
   cases h1
   have he:=qC he
   obtain ⟨hc,hx⟩:=a3i (G:=noG) (w:=default) hl
   obtain ⟨js,g1,g2,g3,g4,g5,g6⟩:=i11 σ fs m (j::us) ls h2
   have hnu:j∉us:=fun hin=>by
    have:us.any (Nat.beq j)=true:=List.any_eq_true.2 ⟨j,hin,Nat.beq_refl j⟩
    rw [hu] at this;cases this
   refine ⟨j::js,by simp [g1],fun i q' hq=> ?_,List.nodup_cons.2 ⟨fun hin=>g4 j hin qI,g3⟩,fun j' hj'=> ?_,fun fr id mc hl'=> ?_,fun fr k hk=> ?_⟩
   ·cases i with
    | zero=>simp at hq;subst hq;exact ⟨j,rfl,hj⟩
    | succ i=>exact g2 i q' (by simpa using hq)
   ·rcases qO.1 hj' with rfl | hj'
    ·exact hnu
    ·exact fun hin=>g4 j' hj' (qJ _ hin)
   ·rw [i2o,d3g] at hl'
    split at hl'
    ·rename_i e1
     cases hl'
     refine ⟨0,j,rfl,e1.symm,?_,_,_,_,rfl⟩
     subst hc
     rw [hm,he]
     subst hx
     rfl
    ·obtain ⟨i,j',k1,k2,k3,k4⟩:=g5 (fr+1) id mc hl'
     exact ⟨i+1,j',k1,by omega,k3,k4⟩
   ·cases k with
    | zero=>exact ⟨_,by rw [i2o,d3g,if_pos (by omega)]⟩
    | succ k=>
      obtain ⟨mc,hmc⟩:=g6 (fr+1) k (by simpa using hk)
      rw [show fr+1+k=fr+(k+1) by omega] at hmc
      exact ⟨mc,by rw [i2o,d3g,if_neg (by omega)];exact hmc⟩
def i3p (hU:UOK U)(hm:P.follows .mixedOrders=true)(hΦ:OKΦ P Φ){f:FuncId}{fn:Func}{an:Ann U.C}{cp c:U.C}{m:O (Nat×TypeId×U.C)}{F:O (U.T cp) -> A3 (U.T c×LsT U m)}(hf:P.funcs[f]? =some fn)(hcall:b44 P f)(hc:m2q fn=true)
  (hF: ∀l b,F l=some b -> denO P Φ fn an cp c m l=some b) (hn:Nat.ble 1 fn.ntmps=true):d6v P f (m0k cp c m F):=by
 refine ⟨hcall,fun E Z π σ ρ w fr as us m0 m1 v ws hR has hev=> ?_⟩
 unfold m0k at hev
 split at hev
 case h_2=>exact hev.elim
 rename_i c' l'
 split at hev
 case h_2=>exact hev.elim
 rename_i l hl
 obtain ⟨hce,hle⟩:=a3i (G:=noG) (w:=default) hl
 subst hce
 subst hle
 obtain ⟨b,hb,hev⟩:=hev
 obtain ⟨hnev,m2,_,rfl,rfl⟩:=d4r hev
 have hd:=hF _ _ hb
 unfold denO at hd
 unfold m2q at hc
 simp only [qB] at hc
 split at hd
 case h_2=>cases hd
 rename_i cd hbody
 have hc1:a3z fn.ntmps cd=true:=by have:=hc.2.1;rw [hbody] at this;exact this
 have hlen:us.length <= fn.ntmps:=by rw [<- y7.length has];exact qW hn
 refine Calls.of_WP (R:=fun u w'=> ∀d:A3 Tmp,∃Z' π',Rel E Z' π' (σ.app d _ _) (b20 ρ d u) w') hf hbody rfl hlen ?_
 have fin: ∀(σ':U.St) Z' π' ρ' w',Rel (m52 Z π ([]:O (Nat×U.MC)) w) Z' π' σ' ρ' w' -> m06 P fn c m σ'=some b -> ∃v,(results fn (Fr fn.ntmps ρ').tmps).run P w'= .ok v w' /\ ∀d:A3 Tmp,∃Z2 π2,Rel E Z2 π2 (σ.app d (.st c (b8h (i2p fr m) (U.flds c b.1))) (i2o fr m b.2)) (b20 ρ d v) w':=by
  intro σ' Z' π' ρ' w' h' ho
  unfold m06 at ho
  split at ho
  case h_2=>cases ho
  rename_i c' fs hr
  split at ho
  case h_2=>cases ho
  rename_i hcc
  have:=c0a hcc
  subst this
  obtain ⟨hk,hg⟩:=a2k ho
  obtain ⟨us',hus,has'⟩:=l65 (n:=fn.ntmps) hU h' hc.2.2 hr
  match us',has' with
  | [u],has'=>
    refine ⟨u,d0d hus,fun d=> ?_⟩
    obtain ⟨js,g1,g2,g3,_,g5,g6⟩:=i11 σ' fs m [] b.2 hg
    let og:Nat -> A3 Nat:=fun id=>if fr <= id then js[id-fr]? else none
    let π2:Nat -> A5:=fun id=>match og id with | some j=>π' j | none=>π id
    have hog: ∀{i j:Nat},js[i]? =some j -> og (fr+i)=some j:=fun {i j} h=>by
     show (if fr <= fr+i then js[fr+i-fr]? else none)=some j
     rw [if_pos (by omega),show fr+i-fr=i by omega];exact h
    have hog': ∀{id j:Nat},og id=some j -> σ.mem id= .never:=fun {id j} h=>by
     have h:(if fr <= id then js[id-fr]? else none)=some j:=h
     split at h
     ·have h1:=(qD.1 h).1
      have h2:=hnev (fr+(id-fr)) (i1u m fr (id-fr) (by omega))
      rwa [show fr+(id-fr)=id by omega] at h2
     ·cases h
    have hπ2: ∀{i j:Nat},js[i]? =some j -> π2 (fr+i)=π' j:=fun {i j} h=>by
     show (match og (fr+i) with | some j=>π' j | none=>π (fr+i))=π' j
     rw [hog h]
    have hnvr: ∀{id mc},lk id (i2o fr m b.2)=some mc -> σ.mem id= .never:=fun {id mc} h=>by
     obtain ⟨i,j,k1,rfl,_,_⟩:=g5 fr id mc h
     exact hog' (hog k1)
    have ha:=has'.1
    obtain ⟨css,hv,hlay,hpp,hall⟩:=ha
    refine ⟨Z',π2,hR.next (a:= .st c (b8h (i2p fr m) (U.flds c b.1))) (d:=d) (l:=i2o fr m b.2) ?_ h'.zout ?_ ?_ ?_ ?_ ?_ ?_ ?_⟩
    ·exact h'.ext.mono fun b ⟨id,x,hx,_⟩=>by cases hx
    ·intro b hb
     rcases h'.zin b hb with h1 | ⟨id,x,hx,_⟩ | h1
     ·exact .inl h1
     ·cases hx
     ·exact .inr (.inl ⟨h1,h'.zlt b hb⟩)
    ·intro id hu
     show (match og id with | some j=>π' j | none=>π id)=π id
     cases ho:og id with
     | none=>rfl
     | some j=>exact absurd (hog' ho) hu
    ·intro id mc hmc
     obtain ⟨i,j,_,_,_,e,c0,l0,rfl⟩:=g5 fr id mc hmc
     intro h;cases h
    ·intro id mc hmc
     obtain ⟨i,j,k1,rfl,k3,e,c0,l0,rfl⟩:=g5 fr id mc hmc
     rw [hπ2 k1]
     have:=h'.mem j
     rw [k3] at this
     exact this
    ·intro id mc b' hmc hb'
     obtain ⟨i,j,k1,rfl,k3,e,c0,l0,rfl⟩:=g5 fr id mc hmc
     rw [hπ2 k1,<- k3] at hb'
     obtain ⟨o1,o2,o3⟩:=h'.own j b' hb'
     refine ⟨o1,o2,.inl ?_⟩
     rcases o3 with ⟨id0,x,hx,_⟩ | o3
     ·cases hx
     ·exact o3
    ·intro id id' mc mc' b' hne hmc hmc' hb1 hb2
     obtain ⟨i,j,k1,rfl,k3,e,c0,l0,rfl⟩:=g5 fr id mc hmc
     obtain ⟨i',j',k1',rfl,k3',e',c0',l0',rfl⟩:=g5 fr id' mc' hmc'
     rw [hπ2 k1,<- k3] at hb1
     rw [hπ2 k1',<- k3'] at hb2
     refine h'.dist j j' b' (fun ee=>hne ?_) hb1 hb2
     subst ee
     obtain ⟨l1,e1⟩:=qD.1 k1
     obtain ⟨l2,e2⟩:=qD.1 k1'
     have hp:=List.pairwise_iff_getElem.1 g3
     rcases Nat.lt_trichotomy i i' with hlt | heq | hgt
     ·exact absurd (e1.trans e2.symm) (hp i i' l1 l2 hlt)
     ·rw [heq]
     ·exact absurd (e2.trans e1.symm) (hp i' i l2 l1 hgt)
    ·have hmk:U.mkv c (d0v (i2p fr m) fs)=some b.1:=by rw [i1e m fr 0 fs];exact hk
     obtain ⟨q1,q2,q3⟩:=d37 hU (X:=cx Z' π' σ' w') (X':=cx Z' π2 (σ.app d (.st c (b8h (i2p fr m) (U.flds c b.1))) (i2o fr m b.2)) w') hlay hpp hall hmk rfl (fun _ h=>h) fun f0 id hf0=>by
      obtain ⟨k,q,e1,e2,e3⟩:=i21 m fr f0 id hf0
      obtain ⟨j,e4,e5⟩:=g2 k q e1
      have hkl:k<m.length:=(qD.1 e1).1
      obtain ⟨mc,hmc⟩:=g6 fr k hkl
      refine ⟨j,by rw [e2];exact c1y e5,?_,?_⟩
      ·show (σ.app d (.st c (b8h (i2p fr m) (U.flds c b.1))) (i2o fr m b.2)).mem id≠ .never
       rw [o8,e3,hmc]
       obtain ⟨i,j',_,_,_,e,c0,l0,rfl⟩:=g5 fr _ mc hmc
       intro h;cases h
      ·show π2 id=π' j
       rw [e3];exact hπ2 e4
     exact ⟨css,hv,q1,q2,q3⟩
  | [],has'=>exact has'.elim
  | _::_::_,has'=>exact has'.2.elim
 refine a6v hU hΦ hm cd an _ _ b hc1 hd (m52 Z π ([]:O (Nat×U.MC)) w) (fun i=>⟨fun ⟨x,hx,_⟩=>(by cases hx),fun h=>(by cases h)⟩) (fun _=>False) (fun t=>us.getD t undef) _ (fun _ h=>h.elim) ⟨fun σ' Z' π' ρ' w' _ h' he=>fin σ' Z' π' ρ' w' h' he,(fun i σ' Z' π' ρ' w' _ h' he=>by cases he),fun σ' Z' π' ρ' w' _ h' he=>fin σ' Z' π' ρ' w' h' he⟩ Z π _ w (fun _ h=>h.elim) ?_
 exact hR.sub hU (c:=[]) (fun id x h=>by cases h) (fun id x h=>by cases h) has (fun id hid=>by have hid:id∈([]:O Nat):=hid;cases hid) 1
end
end Go.SX
