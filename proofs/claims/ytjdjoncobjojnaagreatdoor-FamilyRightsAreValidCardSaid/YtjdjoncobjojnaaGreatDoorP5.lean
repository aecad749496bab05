/- Texts of the proof, joined. -/
import Derived.Test.YtjdjoncobjojnaaGreatDoorP4
import Derived.KernelRfl
import Derived.Lib.Overlaps
import Derived.Lib.AppendZerosOnto
import Derived.Laws.CopyRow
set_option linter.defProp false
set_option linter.unusedVariables false
set_option linter.unusedSimpArgs false
set_option maxRecDepth 100000
open List
namespace Go.SX
open Go Go.PL Go.RowKit
section
variable {U:Uni} {P:Program}
def refI:U.AV->O Nat|.ref a=>[a]|_=>[]
def m27:U.AV->O Nat|.clo _ b=>b.flatMap refI|.ref a=>[a]|.fref a _ _=>[a]|.vw a _ _ _=>[a]|.va a _ _ _=>[a]|_=>[]
def l7b:U.AV->O Nat|.st _ b=>b.flatMap m27|a=>m27 a
def l8a:U.AV->O Nat|.clo _ b=>b.flatMap l7b|.tup b=>b.flatMap l7b|.bnd _ a=>l7b a|.ifc _ a=>l7b a|a=>l7b a
def l5a:U.MC->O Nat|.box _ a=>l7b a|_=>[]
def m4h(r:Nat->Nat):U.AV->U.AV|.ref b=>.ref (r b)|a=>a
def m26(r:Nat->Nat):U.AV->U.AV|.clo f d=>.clo f (d.map (m4h r))|.ref b=>.ref (r b)|.fref b c p=>.fref (r b) c p|.vw b c e n=>.vw (r b) c e n|.va b c p n=>.va (r b) c p n|a=>a
def l84(r:Nat->Nat):U.AV->U.AV|.st c b=>.st c (b.map (m26 r))|a=>m26 r a
def m4m(r:Nat->Nat):U.AV->U.AV|.clo f b=>.clo f (b.map (l84 r))|.tup b=>.tup (b.map (l84 r))|.bnd f a=>.bnd f (l84 r a)|.ifc t a=>.ifc t (l84 r a)|a=>l84 r a
def m2b(r:Nat->Nat):U.MC->U.MC|.box t a=>.box t (l84 r a)|m=>m
def l4z{c β g:Type}{Q:c->β->Prop}{e:g->β->Prop}{f:c->g}:∀{as:O c}{d:O β},y7 Q as d->(∀a∈as,∀b,Q a b->e (f a) b)->y7 e (as.map f) d|[],[],_,_=>trivial|a::as,b::d,h,i=>⟨i a qI b h.1,l4z h.2 λj k=>i j (qJ _ k)⟩|[],_::_,h,_=>h.elim|_::_,[],h,_=>h.elim
section
variable {Z us us':Nat -> Prop} {π π':Nat -> A5} {w:World} {r:Nat -> Nat}
def trI{a:U.AV}{v:A5}(c:∀id∈refI a,us id->us' (r id)/\π' (r id)=π id)(h:l9j (⟨Z,π,us,w⟩:Cx) a v):l9j (⟨Z,π',us',w⟩:Cx) (m4h r a) v:=by cases a<;>first|exact h.elim|(let ⟨b,d⟩:=c _ (qF.2 rfl) h.1;exact⟨b,h.2.1.trans d.symm,h.2.2⟩)
def tr0{a:U.AV}{v:A5}(e:∀id∈m27 a,us id->us' (r id)/\π' (r id)=π id)(h:b79 (⟨Z,π,us,w⟩:Cx) a v):b79 (⟨Z,π',us',w⟩:Cx) (m26 r a) v:=by cases a with|ref id=>let ⟨d,b⟩:=e id (qF.2 rfl) h.1;exact⟨d,h.2.1.trans b.symm,h.2.2⟩|fref id c p=>let ⟨d,b⟩:=e id (qF.2 rfl) h.1;let ⟨a,i,g⟩:=h.2;exact⟨d,a,by show c5g (π' _)=some a;rw[b];exact i,g⟩|vw id c o n=>let ⟨d,b⟩:=e id (qF.2 rfl) h.1;exact⟨d,by show d0z v (π' _) _ _ _;rw[b];exact h.2⟩|va id c p n=>let ⟨d,b⟩:=e id (qF.2 rfl) h.1;let ⟨a,i,g⟩:=h.2;exact⟨d,a,by show c5g (π' _)=some a;rw[b];exact i,g⟩|clo f q=>let ⟨m,g,i⟩:=h;exact⟨m,g,l4z i λa k u l=>trI (λid j=>e id (List.mem_flatMap.2 ⟨a,k,j⟩)) l⟩|_=>exact h
def l8y(a:U.AV):a07 (m26 r a)=a07 a:=by cases a<;>rfl
def l81(a:U.AV):a03 (m26 r a)=a03 a:=by cases a<;>rfl
def tr1{a:U.AV}{v:A5}(b:∀id∈l7b a,us id->us' (r id)/\π' (r id)=π id)(h:a1p (⟨Z,π,us,w⟩:Cx) a v):a1p (⟨Z,π',us',w⟩:Cx) (l84 r a) v:=by
 cases a with|st c g=>
   let ⟨e,o,l,s,q⟩:=h;refine⟨e,o,?_,?_,l4z q λa i t⟨u,j,k⟩=>⟨u,j,tr0 (λid d=>b id (List.mem_flatMap.2 ⟨a,i,d⟩)) k⟩⟩;.rw[List.map_map,<-l];exact List.map_congr_left λa _=>l8y a
   .rw[all_map,<-s];congr 1;funext a;exact l81 a|ref id=>exact tr0 (U:=U) (a:=.ref id) b h|fref id c p=>exact tr0  (a:=.fref id c p) b h|vw id c m n=>exact tr0  (a:=.vw id c m n) b h|va id c p n=>exact tr0  (a:=.va id c p n) b h|clo f g=>exact tr0  (a:=.clo f g) b h|_=>exact h
def trA{a:U.AV}{v:A5}(b:∀id∈l8a a,us id->us' (r id)/\π' (r id)=π id)(h:AVR (⟨Z,π,us,w⟩:Cx) a v):AVR (⟨Z,π',us',w⟩:Cx) (m4m r a) v:=by cases a with|clo f k=>let ⟨m,e,i⟩:=h;exact⟨m,e,l4z i λa j u o=>tr1 (λid d=>b id (List.mem_flatMap.2 ⟨a,j,d⟩)) o⟩|tup k=>let ⟨m,e,i⟩:=h;exact⟨m,e,l4z i λa j u o=>tr1 (λid d=>b id (List.mem_flatMap.2 ⟨a,j,d⟩)) o⟩|bnd f a=>let ⟨u,e,i⟩:=h;exact⟨u,e,tr1 b i⟩|ifc t a=>let ⟨u,e,i⟩:=h;exact⟨u,e,tr1 b i⟩|st c k=>exact tr1  (a:=.st c k) b h|km g t l=>exact h|vl g t c l=>exact h|ref id=>exact tr0 (U:=U) (a:=.ref id) b h|fref id c p=>exact tr0  (a:=.fref id c p) b h|vw id c q n=>exact tr0  (a:=.vw id c q n) b h|va id c p n=>exact tr0  (a:=.va id c p n) b h|_=>exact h
def trM{m:U.MC}{v:A5}(d:∀id∈l5a m,us id->us' (r id)/\π' (r id)=π id)(h:MR (⟨Z,π,us,w⟩:Cx) m v):MR (⟨Z,π',us',w⟩:Cx) (m2b r m) v:=by cases m with|box t a=>let ⟨b,u,f,c,e⟩:=h;exact⟨b,u,f,c,tr1 d e⟩|_=>exact h
end
def l8i{r:Nat->Nat}{m:U.MC}{v:A5}{b:Nat}:MB (m2b r m) v b↔MB m v b:=by cases m<;>exact Iff.rfl
def l5m{r:Nat->Nat}{m:U.MC}(h:m≠.never):m2b r m≠.never:=by cases m<;>first|exactλe=>h e|exactλe=>(by cases e)
def m2h(a:U.AV):m4h (λi=>i) a=a:=by cases a<;>rfl
def l8n(a:U.AV):m26 (λi=>i) a=a:=by cases a with|clo f b=>show AV.clo f _=_;rw[List.map_congr_left λa _=>m2h a,map_id']|_=>rfl
def l5b(a:U.AV):l84 (λi=>i) a=a:=by cases a with|st c b=>show AV.st c _=_;rw[List.map_congr_left λa _=>l8n a,map_id']|clo f b=>exact l8n  (.clo f b)|_=>rfl
def m2e(a:U.AV):m4m (λi=>i) a=a:=by cases a with|clo f b=>show AV.clo f _=_;rw[List.map_congr_left λa _=>l5b a,map_id']|tup b=>show AV.tup _=_;rw[List.map_congr_left λa _=>l5b a,map_id']|bnd f a=>show AV.bnd f _=_;rw[l5b]|ifc t a=>show AV.ifc t _=_;rw[l5b]|st c b=>exact l5b  (.st c b)|_=>rfl
def m1z(m:U.MC):m2b (λi=>i) m=m:=by cases m with|box t a=>show MC.box t _=_;rw[l5b]|_=>rfl
def l5i(k:O (Nat×U.MC)->U.Q):Nat->O Nat->O (Nat×U.MC)->U.Q|0,_,_=>.fail|_+1,[],a=>k a|n+1,b::r,a=>match lk b a with|some _=>l5i k n r a|none=>.rdM b λm=>l5i k n (l5a m++r) ((b,m)::a)
def l5g{σ:U.St}{k:O (Nat×U.MC)->U.Q}:∀(n:Nat)(d:O Nat)(c:O (Nat×U.MC)){p m:Nat}{v:U.AV}{l:O (Nat×U.MC)},(l5i k n d c).Ev σ p m v l->(∀id x,lk id c=some x->x=σ.mem id)->(∀id x,lk id c=some x->∀j∈l5a x,(lk j c).isSome=true\/j∈d)->∃a o,(k a).Ev σ o m v l/\(∀id x,lk id a=some x->x=σ.mem id)/\(∀id x,lk id a=some x->∀j∈l5a x,(lk j a).isSome=true)/\∀id,(lk id c).isSome=true\/id∈d->(lk id a).isSome=true
 |0,_,_,_,_,_,_,b,_,_=>b.elim|n+1,[],c,p,m,v,l,b,q,s=>⟨c,p,b,q,λid x h j g=>(s id x h j g).elim (λh=>h) (λh=>by cases h),λid h=>h.elim (λh=>h) (λh=>by cases h)⟩|n+1,i::r,c,p,m,v,l,b,q,s=>by
   simp [l5i]at b;split at b
   .rename_i y B;let ⟨a,o,A,z,t,w⟩:=l5g n r c b q λid x h j g=>by
     rcases s id x h j g with h|h;.exact .inl h
     .rcases qO.1 h with rfl|h;.exact .inl (by rw[B];rfl)
      .exact .inr h
    refine⟨a,o,A,z,t,λid h=>w id ?_⟩;rcases h with h|h;.exact .inl h
    .rcases qO.1 h with rfl|h;.exact .inl (by rw[B];rfl)
     .exact .inr h
   .let ⟨a,o,A,z,t,w⟩:=l5g n _ _ b (λid x h=>by
      rw[d3g]at h;split at h;.rename_i e;subst e;cases h;rfl
      .exact q id x h) λid x h j g=>by
     rw[d3g]at h;rw[d3g];split at h;.cases h;exact .inr (List.mem_append_left _ g)
     .split;.exact .inl rfl
      .rename_i f;rcases s id x h j g with h|h;.exact .inl h
       .rcases qO.1 h with rfl|h;.exact absurd rfl f
        .exact .inr (List.mem_append_right _ h)
    refine⟨a,o,A,z,t,λid h=>w id ?_⟩;rw[d3g];split;.exact .inl rfl
    .rename_i f;rcases h with h|h;.exact .inl h
     .rcases qO.1 h with rfl|h;.exact absurd rfl f
      .exact .inr (List.mem_append_right _ h)
def gds:O Oper->O Nat|[]=>[]|o::r=>match o.guard with|some (g,_)=>(match(gds r).any (Nat.beq g)with|true=>gds r|false=>g::gds r)|none=>gds r
def l7u{R:Type}(P:Program)(Φ:Phi U):Code->Ann U.C->U.St->Kont U R->A3 R
 |.skip,_,d,k=>k.norm d|.region _ h j,f,d,k=>d6q P Φ (f.sp++gds h.toList) h.toList j (frzA d f.fz) k.norm|.seq a b,f,d,k=>l7u P Φ a f.fst d ⟨λd=>l7u P Φ b f.snd d k,k.exit,k.ret⟩|.cond c a b,f,d,k=>match c0g d c with|some e=>if e=true then l7u P Φ a f.fst d k else l7u P Φ b f.snd d k|none=>none
 |.block m a,f,d,k=>l7u P Φ a f d ⟨k.norm,λi d=>match Nat.beq i m with|true=>k.norm d|false=>k.exit i d,k.ret⟩|.loop a,f,d,k=>d9 FU (λl d=>l7u P Φ a f d ⟨l,k.exit,k.ret⟩) d|.exit m,_,d,k=>k.exit m d|.ret,_,d,k=>k.ret d|_,_,_,_=>none
structure KOKC{R:Type}(E:Env)(k:Kont U R)(r:R)(Q:Exit->(Nat->Value)->World->Prop):Prop where
 norm:∀σ Z π ρ w,Rel E Z π σ ρ w->k.norm σ=some r->Q .normal ρ w
 exit:∀i σ Z π ρ w,Rel E Z π σ ρ w->k.exit i σ=some r->Q (.exit i) ρ w
 ret:∀σ Z π ρ w,Rel E Z π σ ρ w->k.ret σ=some r->Q .ret ρ w
variable {n:Nat} {Φ:Phi U}
def l4c(y:UOK U)(o:OKΦ P Φ)(x:P.follows .mixedOrders=true){R:Type}{E:Env}:∀(c:Code)(an:Ann U.C)(σ:U.St)(k:Kont U R)(r:R),a3z n c=true->l7u P Φ c an σ k=some r->∀Q,KOKC E k r Q->∀Z π ρ w,Rel E Z π σ ρ w->WP P n c Q ρ w
 |.skip,an,σ,k,r,_,h,Q,j,Z,π,ρ,w,l=>WP.skip (j.norm σ Z π ρ w l h)|.region v S I,an,σ,k,r,m,h,Q,j,Z,π,ρ,w,l=>by simp only[a3z,qB]at m;obtain⟨Z,l⟩:=f5q l an.fz;have:=e7n (Q:=Q) (id:=v) y o x m.1.1 m.1.2 m.2 h (λd Z π q w _ f g=>j.norm d Z π q w f g) l;rwa[Array.toArray_toList]at this|.seq a b,an,σ,k,r,m,h,Q,j,Z,π,ρ,w,l=>by simp only[a3z,qB]at m;refine WP.seq ?_;exact l4c y o x a an.fst σ _ r m.1 h (d78 (WP P n b Q) Q) ⟨λd Z π ρ w f g=>l4c y o x b an.snd d k r m.2 g Q j Z π ρ w f,λi d Z π ρ w f g=>j.exit i d Z π ρ w f g,λd Z π ρ w f g=>j.ret d Z π ρ w f g⟩ Z π ρ w l|.cond c a b,an,σ,k,r,m,h,Q,j,Z,π,ρ,w,l=>by
   simp only[a3z,qB]at m;simp only[l7u]at h;split at h
   .rename_i e M;refine WP.cond (t:=e) m.1 (f4h l M) (λL=>?_) (λN=>?_);.rw[if_pos L]at h;exact l4c y o x a _ σ k r m.2.1 h Q j Z π ρ w l
    .rw[if_neg (by rw[N];simp)]at h;exact l4c y o x b _ σ k r m.2.2 h Q j Z π ρ w l
   .cases h|.block v a,an,σ,k,r,m,h,Q,j,Z,π,ρ,w,l=>by refine WP.block ?_;refine l4c y o x a an σ _ r m h (e48 v Q) ⟨λd Z π ρ w f g=>j.norm d Z π ρ w f g,λi d Z π ρ w f g=>?_,λd Z π ρ w f g=>j.ret d Z π ρ w f g⟩ Z π ρ w l;show(if i=v then Q .normal ρ w else Q (.exit i) ρ w);have g:(match Nat.beq i v with|true=>k.norm d|false=>k.exit i d)=some r:=g;cases C:Nat.beq i v with|true=>rw[C]at g;rw[if_pos (qC C)];exact j.norm d Z π ρ w f g|false=>rw[C]at g;rw[if_neg (Nat.ne_of_beq_eq_false C)];exact j.exit i d Z π ρ w f g
 |.loop a,an,σ,k,r,m,h,Q,j,Z,π,ρ,w,l=>by refine WP.loop (λA ρ w=>∃σ Z π,Rel E Z π σ ρ w/\d9 A _ σ=some r) FU ⟨σ,Z,π,l,h⟩ (λρ w⟨_,_,_,_,h⟩=>by cases h) ?_;rintro A G K⟨F,J,D,H,T⟩;exact l4c y o x a an F _ r m T (d78 (λρ w=>∃σ Z π,Rel E Z π σ ρ w/\d9 A _ σ=some r) Q) ⟨λd z u q B f g=>⟨d,z,u,f,g⟩,λi d z u q B f g=>j.exit i d z u q B f g,λd z u q B f g=>j.ret d z u q B f g⟩ J D G K H|.exit v,an,σ,k,r,_,h,Q,j,Z,π,ρ,w,l=>WP.exit (j.exit v σ Z π ρ w l h)|.ret,an,σ,k,r,_,h,Q,j,Z,π,ρ,w,l=>WP.ret (j.ret σ Z π ρ w l h)|.rangeFunc _ _ _ _,_,_,_,_,_,h,_,_,_,_,_,_,_=>by cases h|.scope _,_,_,_,_,_,h,_,_,_,_,_,_,_=>by cases h|.label _,_,_,_,_,_,h,_,_,_,_,_,_,_=>by cases h|.goto _,_,_,_,_,_,h,_,_,_,_,_,_,_=>by cases h|.refuse _,_,_,_,_,_,h,_,_,_,_,_,_,_=>by cases h
def l88:Nat->O U.AV->O (Nat×U.AV)|_,[]=>[]|i,a::c=>(i,a)::l88 (i+1) c
def m4p(P:Program)(σ:U.St):O ResultVar->A3 (O U.AV)|[]=>some []|r::l=>match f3d P σ r,m4p P σ l with|some a,some c=>some (a::c)|_,_=>none
def m2y(P:Program)(fn:Func)(σ:U.St):A3 (U.AV×U.St):=match m4p P σ fn.results.toList with|some [a]=>some (a,σ)|some b=>(match b.all c1d with|true=>some (.tup b,σ)|false=>none)|none=>none
def crun(P:Program)(Φ:Phi U)(fn:Func)(an:Ann U.C)(as:O U.AV)(b:O (Nat×U.MC))(nx:Nat):A3 (U.AV×U.St):=match fn.body with|some c=>l7u P Φ c an ⟨l88 0 as,b,nx⟩ ⟨λa=>m2y P fn a,λ_ _=>none,λa=>m2y P fn a⟩|none=>none
def l8u(σ:U.St)(b:O (Nat×U.MC)):Nat->O Nat->O Nat->A3 (O Nat)|0,_,_=>none|_+1,[],a=>some a|n+1,c::r,a=>match(lk c b).isSome||a.any (Nat.beq c)with|true=>l8u σ b n r a|false=>l8u σ b n (l5a (σ.mem c)++r) (c::a)
def l87:Nat->O Nat->O (Nat×Nat)|_,[]=>[]|n,i::r=>(i,n)::l87 (n+1) r
def l86(a:O (Nat×Nat))(id:Nat):Nat:=match lk id a with|some j=>j|none=>id
def m2c(a:O (Nat×U.MC))(b:O (Nat×Nat))(l:O Nat):Bool:=l.all λj=>(lk j a).isSome||(lk j b).isSome
def l7j:U.MC->Bool|.never=>false|_=>true
def m1r(a:O (Nat×U.MC))(d:O (Nat×Nat))(b:O Nat)(p:U.AV×U.St):Bool:=m2c a d (l8a p.1)&&(a.all λq=>l7j q.2&&m2c a d (l5a (p.2.mem q.1)))&&(b.all λc=>l7j (p.2.mem c)&&!(lk c a).isSome&&m2c a d (l5a (p.2.mem c)))&&c6j b
def m36(b:O (Nat×U.MC))(a:O (Nat×Nat))(c:O Nat)(p:U.AV×U.St):A3 (U.AV×O (Nat×U.MC)×O Nat):=match m1r b a c p with|true=>some (m4m (l86 a) p.1,(b.map λq=>(q.1,m2b (l86 a) (p.2.mem q.1)))++(a.map λq=>(q.2,m2b (l86 a) (p.2.mem q.1))),a.map (·.2))|false=>none
def m1y(b:O (Nat×U.MC))(fr:Nat)(p:U.AV×U.St):A3 (U.AV×O (Nat×U.MC)×O Nat):=match l8u p.2 b 1000 (l8a p.1++b.flatMap λq=>l5a (p.2.mem q.1)) []with|some a=>m36 b (l87 fr a) a p|none=>none
def m4j(P:Program)(Φ:Phi U)(fn:Func)(an:Ann U.C)(fr:Nat)(as:O U.AV):U.Q:=match Nat.ble as.length fn.ntmps with|true=>l5i (λa=>.opt (crun P Φ fn an as a (fr+16)) λp=>.opt (m1y a fr p) λq=>g6x q.2.2 (.done q.1 q.2.1)) 1000 (as.flatMap l8a) []|false=>.fail
def l5w:∀(l:O Nat)(n:Nat){a j:Nat},lk a (l87 n l)=some j->n<=j
 |[],n,a,j,h=>by cases h|i::l,n,a,j,h=>by
   rw[l87,d3g]at h;split at h;.cases h;exact Nat.le_refl _
   .exact Nat.le_of_succ_le (l5w l _ h)
def l6w:∀(l:O Nat)(n:Nat){a j:Nat},lk a (l87 n l)=some j->lk j ((l87 n l).map λq=>(q.2,q.1))=some a
 |[],n,a,j,h=>by cases h|i::l,n,a,j,h=>by
   rw[l87,d3g]at h;show lk j ((n,i)::(l87 _ l).map _)=some a;rw[d3g];split at h;.rename_i e;cases h;rw[if_pos rfl,e]
   .have:=l5w l _ h;rw[if_neg (by omega)];exact l6w l _ h
def l7g:∀(l:O Nat)(n:Nat){a j:Nat},c6j l=true->(a,j)∈l87 n l->lk a (l87 n l)=some j/\a∈l
 |[],n,a,j,_,h=>by cases h|i::l,n,a,j,f,h=>by
   let ⟨d,c⟩:=b1j f;rw[l87,d3g];rcases qO.1 h with h|h;.cases h;exact⟨if_pos rfl,qI⟩
   .let ⟨k,b⟩:=l7g l _ c h;rw[if_neg (λe=>d (by rw[e];exact b))];exact⟨k,qJ _ b⟩
def l8c{b β:Type}(g:Nat->β)(id:Nat):∀l:O (Nat×b),lk id (l.map λq=>(q.1,g q.1))=(lk id l).map λ_=>g id
 |[]=>rfl|(i,a)::l=>by
   rw[List.map_cons,d3g,d3g,l8c g id l];split;.rename_i e;rw[<-e];rfl
   .rfl
def l8l{β:Type}(g:Nat->β)(id:Nat):∀l:O (Nat×Nat),lk id (l.map λq=>(q.2,g q.1))=(lk id (l.map λq=>(q.2,q.1))).map g|[]=>rfl|(i,a)::l=>by rw[List.map_cons,List.map_cons,d3g,d3g,l8l g id l];split<;>rfl
variable {E:Env} {Z:Nat -> Prop} {π:Nat -> A5} {σ:U.St} {ρ:Nat -> A5} {w:World}
def m52(Z:Nat->Prop)(π:Nat->A5)(a:O (Nat×U.MC))(w:World):Env:=⟨w,λb=>∃c x,lk c a=some x/\MB x (π c) b,Z,λc=>∃x,lk c a=some x/\x≠.never,π⟩
def l8e:∀(as:O U.AV)(i t:Nat),lk t (l88 i as)=if i<=t then as[t-i]?else none
 |[],i,t=>by simp[l88,lk]|a::as,i,t=>by
   rw[l88,d3g,l8e as _ t];by_cases h:i=t;.subst h;simp
   .rw[if_neg h];by_cases b:i+1<=t;.rw[if_pos b,if_pos (by omega),show t-i=(t-(i+1))+1by omega,List.getElem?_cons_succ]
    .rw[if_neg b,if_neg (by omega)]
def Rel.sub(N:UOK U)(h:Rel E Z π σ ρ w){c:O (Nat×U.MC)}(s:∀id x,lk id c=some x->x=σ.mem id)(M:∀id x,lk id c=some x->∀j∈l5a x,(lk j c).isSome=true){as:O U.AV}{us:O A5}(C:y7 (AVR (cx Z π σ w)) as us)(Q:∀id∈as.flatMap l8a,(lk id c).isSome=true)(nx:Nat):Rel (m52 Z π c w) Z π (⟨l88 0 as,c,nx⟩:U.St) (λt=>us.getD t undef) w:=by
 have e:∀id,(⟨l88 0 as,c,nx⟩:U.St).mem id=match lk id c with|some m=>m|none=>.never:=by intro id;unfold St.mem;cases lk id c<;>rfl
 have k:∀{id b},MB ((⟨l88 0 as,c,nx⟩:U.St).mem id) (π id) b->(∃x,lk id c=some x/\MB x (π id) b)/\MB (σ.mem id) (π id) b:=by intro id b d;rw[e]at d;cases l:lk id c with|none=>rw[l]at d;exact d.elim|some x=>rw[l]at d;exact⟨⟨x,rfl,d⟩,by rw[<-s id x l];exact d⟩
 have o:∀id,(lk id c).isSome=true->b7a σ id->b7a (⟨l88 0 as,c,nx⟩) id:=by intro id z g;let ⟨x,f⟩:=Option.isSome_iff_exists.1 z;unfold b7a;rw[e,f];rw[s id x f];exact g
 refine⟨λt=>?_,λid=>?_,λid b d=>?_,λid v b B d y=>h.dist id v b B (k d).2 (k y).2,h.zlt,λb d=>.inl d,λb d=>d,Ext.refl _ _,λid⟨x,f,I⟩=>⟨?_,rfl⟩,h.tabw N,λb d=>⟨Nat.lt_of_lt_of_le (h.tab.2 b d).1 h.ext.size,λ⟨id,x,f,p⟩=>?_⟩⟩
 .have z:(⟨l88 0 as,c,nx⟩:U.St).slot t=match as[t]?with|some a=>a|none=>.unk:=by unfold St.slot;rw[l8e,Nat.sub_zero];cases as[t]?<;>rfl
  rw[z];cases F:as[t]?with|none=>trivial|some a=>let ⟨u,g,A⟩:=C.get F;rw[List.getD_eq_getElem?_getD,g];have:=trA        (λid D g=>⟨o id (Q id (List.mem_flatMap.2 ⟨a,qE F,D⟩)) g,rfl⟩) A;rwa[m2e]at this
 .rw[e];cases l:lk id c with|none=>trivial|some x=>have f:=s id x l;have G:=h.mem id;rw[<-f]at G;have:=trM        (λj J g=>⟨o j (M id x l j J) g,rfl⟩) G;rwa[m1z]at this
 .let ⟨⟨x,f,p⟩,d⟩:=k d;let ⟨H,L,_⟩:=h.own id b d;exact⟨H,L,.inl ⟨id,x,f,p⟩⟩
 .unfold b7a;rw[e,f];exact I
 .rw[s id x f]at p;let ⟨_,_,q⟩:=h.own id b p;have K:=h.tab.2 b d;rcases q with q|q;.exact K.2 q
  .omega
def Rel.back(h:Rel E Z π σ ρ w){f:O (Nat×U.MC)}(g1:∀id x,lk id f=some x->x=σ.mem id){Z':Nat->Prop}{π':Nat->A5}{σ':U.St}{ρ':Nat->A5}{w':World}(L:Rel (m52 Z π f w) Z' π' σ' ρ' w'){a:U.AV}{v:A5}(ha:AVR (cx Z' π' σ' w') a v){fr:Nat}{q:U.AV×O (Nat×U.MC)×O Nat}(R:m1y f fr (a,σ')=some q)(M:∀id∈q.2.2,σ.mem id=.never)(d:A3 Tmp):∃Z2 J,Rel E Z2 J (σ.app d q.1 q.2.1) (b20 ρ d v) w':=by
 unfold m1y at R;split at R;case h_2=>cases R
 rename_i t _;unfold m36 at R;split at R;case h_2=>cases R
 rename_i V;obtain rfl:=qH R;simp only at M;unfold m1r at V;simp only[qB]at V;obtain⟨⟨⟨okA,okG⟩,okK⟩,okN⟩:=V;generalize T:l87 fr t=i at*;let g:Nat->U.MC:=λc=>m2b (l86 i) (σ'.mem c);let F:Nat->A3 Nat:=λid=>match lk id f with|some _=>some id|none=>lk id (i.map λq=>(q.2,q.1));let J:Nat->A5:=λid=>match F id with|some c=>π' c|none=>π id;have H:∀{id x},lk id f=some x->x≠.never/\m2c f i (l5a (σ'.mem id))=true:=by intro id x u;have:=qX.1 okG (id,x) (b1x u);simp only[qB]at this;exact⟨λe=>by rw[e]at this;exact absurd this.1 (by simp[l7j]),this.2⟩
 have o:∀{id},id∈t->σ'.mem id≠.never/\lk id f=none/\m2c f i (l5a (σ'.mem id))=true:=by intro id hid;have:=qX.1 okK id hid;simp only[qB,Bool.not_eq_true']at this;exact⟨λe=>by rw[e]at this;exact absurd this.1.1 (by simp[l7j]),by simpa using this.1.2,this.2⟩
 have A:∀{id c},lk id (i.map λq=>(q.2,q.1))=some c->lk c i=some id/\c∈t/\σ.mem id=.never:=by
  intro id c hs;obtain⟨p,hp,e⟩:=List.mem_map.1 (b1x hs);simp only[Prod.mk.injEq]at e;obtain⟨e1,e2⟩:=e;have hp':(c,id)∈i:=by rw[<-e1,<-e2];exact hp
  have hh:=l7g t fr okN (by rw[T];exact hp');rw[T]at hh;exact⟨hh.1,hh.2,M id (List.mem_map.2 ⟨(c,id),hp',rfl⟩)⟩
 have Q:∀{id x},lk id f=some x->b7a σ' id/\π' id=π id:=λu=>L.pin _ ⟨_,u,(H u).1⟩;have N:∀id,lk id ((f.map λq=>(q.1,g q.1))++(i.map λq=>(q.2,g q.1)))=(F id).map g:=by intro id;rw[c7z,l8c,l8l];have e:F id=match lk id f with|some _=>some id|none=>lk id (i.map λq=>(q.2,q.1)):=rfl;rw[e];cases lk id f<;>rfl
 have F2:∀{id c},F id=some c->b7a σ' c/\m2c f i (l5a (σ'.mem c))=true:=by intro id c k;have k:(match lk id f with|some _=>some id|none=>lk id (i.map λq=>(q.2,q.1)))=some c:=k;cases y:lk id f with|some x=>rw[y]at k;cases k;exact⟨(Q y).1,(H y).2⟩|none=>rw[y]at k;obtain⟨_,C,_⟩:=A k;exact⟨(o C).1,(o C).2.2⟩
 have F3:∀{id r c},F id=some c->F r=some c->id=r:=by intro id r c z C;have z:(match lk id f with|some _=>some id|none=>lk id (i.map λq=>(q.2,q.1)))=some c:=z;have C:(match lk r f with|some _=>some r|none=>lk r (i.map λq=>(q.2,q.1)))=some c:=C;cases y:lk id f with
  |some x=>rw[y]at z;cases z;cases D:lk r f with|some x'=>rw[D]at C;cases C;rfl|none=>rw[D]at C;have:=(o (A C).2.1).2.1;rw[y]at this;cases this
  |none=>rw[y]at z;cases D:lk r f with|some x'=>rw[D]at C;cases C;have:=(o (A z).2.1).2.1;rw[D]at this;cases this|none=>rw[D]at C;have e1:=(A z).1;have e2:=(A C).1;rw[e1]at e2;exact qH e2
 have F5:∀{id c},b7a σ id->F id=some c->c=id/\∃x,lk id f=some x:=by intro id c hu k;have k:(match lk id f with|some _=>some id|none=>lk id (i.map λq=>(q.2,q.1)))=some c:=k;cases y:lk id f with|some x=>rw[y]at k;cases k;exact⟨rfl,x,rfl⟩|none=>rw[y]at k;exact absurd (A k).2.2 hu
 have F4:∀{j},((lk j f).isSome||(lk j i).isSome)=true->F (l86 i j)=some j:=by intro j hj;cases hr:lk j i with
  |some W=>
    have e:l86 i j=W:=by unfold l86;rw[hr]
    rw[e];have hs:lk W (i.map λq=>(q.2,q.1))=some j:=by rw[<-T]at hr⊢;exact l6w t fr hr
    show(match lk W f with|some _=>some W|none=>lk W (i.map λq=>(q.2,q.1)))=some j;cases y:lk W f with|some x=>have:=(A hs).2.2;rw[<-g1 W x y]at this;exact absurd this (H y).1|none=>exact hs
  |none=>
    rw[hr]at hj;simp at hj;obtain⟨x,u⟩:=Option.isSome_iff_exists.1 hj;have e:l86 i j=j:=by unfold l86;rw[hr]
    rw[e];show(match lk j f with|some _=>some j|none=>lk j (i.map λq=>(q.2,q.1)))=some j;rw[u]
 have s:∀{id c},F id=some c->J id=π' c:=by intro id c k;show(match F id with|some c=>π' c|none=>π id)=π' c;rw[k]
 have S:∀{b:U.AV}{id c},F id=some c->b7a (σ.app d b ((f.map λq=>(q.1,g q.1))++(i.map λq=>(q.2,g q.1)))) id:=by intro b id c k;unfold b7a;rw[o8,N,k];exact l5m (F2 k).1
 have I:∀{b:U.AV}{l:O Nat},m2c f i l=true->∀j∈l,b7a σ' j->b7a (σ.app d b ((f.map λq=>(q.1,g q.1))++(i.map λq=>(q.2,g q.1)))) (l86 i j)/\J (l86 i j)=π' j:=by intro b l y j hj _;have:=F4 (qX.1 y j hj);exact⟨S this,s this⟩
 refine⟨Z',J,h.next (a:=m4m (l86 i) a) (d:=d) (l:=(f.map λq=>(q.1,g q.1))++(i.map λq=>(q.2,g q.1))) ?_ L.zout ?_ ?_ ?_ ?_ ?_ ?_ ?_⟩;.refine L.ext.mono λb⟨id,x,u,K⟩=>⟨id,g id,?_,by rw[<-g1 id x u];exact K⟩;rw[N];show((match lk id f with|some _=>some id|none=>lk id (i.map λq=>(q.2,q.1))):A3 Nat).map g=some (g id);rw[u];rfl
 .intro b K;rcases L.zin b K with z|⟨id,x,u,z⟩|z;.exact .inl z
  .refine .inr (.inr ⟨id,g id,?_,by rw[<-g1 id x u];exact z⟩);rw[N];show((match lk id f with|some _=>some id|none=>lk id (i.map λq=>(q.2,q.1))):A3 Nat).map g=some (g id);rw[u];rfl
  .exact .inr (.inl ⟨z,L.zlt b K⟩)
 .intro id hu;show(match F id with|some c=>π' c|none=>π id)=π id;cases k:F id with|none=>rfl|some c=>obtain⟨e,x,u⟩:=F5 hu k;rw[e];exact(Q u).2
 .intro id m G;rw[N]at G;obtain⟨c,k,e⟩:=Option.map_eq_some_iff.1 G;rw[<-e];exact l5m (F2 k).1
 .intro id m G;rw[N]at G;obtain⟨c,k,e⟩:=Option.map_eq_some_iff.1 G;rw[<-e,s k];exact trM (I (F2 k).2) (L.mem c)
 .intro id m b G K;rw[N]at G;obtain⟨c,k,e⟩:=Option.map_eq_some_iff.1 G;rw[<-e,s k]at K;obtain⟨z,C,h3⟩:=L.own c b (l8i.1 K);refine⟨z,C,?_⟩;rcases h3 with⟨B,x,u,h3⟩|h3;.refine .inr ⟨B,g B,?_,by rw[<-g1 B x u];exact h3⟩;rw[N];show((match lk B f with|some _=>some B|none=>lk B (i.map λq=>(q.2,q.1))):A3 Nat).map g=some (g B);rw[u];rfl
  .exact .inl h3
 .intro id r m m' b hne G Y K hb';rw[N]at G Y;obtain⟨c,k,e⟩:=Option.map_eq_some_iff.1 G;obtain⟨X,ho',e'⟩:=Option.map_eq_some_iff.1 Y;rw[<-e,s k]at K;rw[<-e',s ho']at hb';exact L.dist c X b (λee=>hne (F3 k (by rw[ee];exact ho'))) (l8i.1 K) (l8i.1 hb')
 .exact trA (I okA) ha
def m2q(fn:Func):Bool:=fn.body.isSome&&(a3z fn.ntmps (fn.body.getD .skip)&&c1m fn.ntmps fn.results.toList)
def l65(g:UOK U)(h:Rel E Z π σ ρ w):∀{rs:O ResultVar}{as:O U.AV},c1m n rs=true->m4p P σ rs=some as->∃us,(rs.mapM (c6y (Fr n ρ).tmps)).run P w=.ok us w/\y7 (AVR (cx Z π σ w)) as us
 |[],as,_,b=>by cases b;exact⟨[],by simp,trivial⟩|r::rs,as,d,b=>by
   simp [m4p]at b;split at b;.rename_i a i m l;cases b;simp only[c1m,List.all_cons,qB]at d;let ⟨u,j,c⟩:=f6r  g h d.1 m;let ⟨us,f,e⟩:=l65 g h  d.2 l;exact⟨u::us,by simp[j,f],c,e⟩
   .cases b
def l9i(j:UOK U)(h:Rel E Z π σ ρ w){fn:Func}(i:c1m n fn.results.toList=true){p:U.AV×U.St}(d:m2y P fn σ=some p):∃v,(results fn (Fr n ρ).tmps).run P w=.ok v w/\p.2=σ/\AVR (cx Z π σ w) p.1 v:=by
 unfold m2y at d;split at d;.rename_i a g;cases d;let ⟨f,e,b⟩:=l65  j h i g;match f,b with|[u],b=>exact⟨_,d0d e,rfl,b.1⟩|[],b=>exact b.elim|_::_::_,b=>exact b.2.elim
 .rename_i k c g;split at d;.rename_i l;cases d;let ⟨f,e,b⟩:=l65  j h i g;refine⟨_,d0d e,rfl,f,?_,b6t l b⟩;match f,k,b,c with|[u],[a],_,c=>exact absurd rfl (c a)|[],_,_,_=>rfl|_::_::_,_,_,_=>rfl
  .cases d
 .cases d
def l7m(K:UOK U)(V:P.follows .mixedOrders=true)(G:OKΦ P Φ){f:FuncId}{fn:Func}{an:Ann U.C}(X:P.funcs[f]?=some fn)(r:b44 P f)(C:m2q fn=true):d6v P f (m4j P Φ fn an):=by
 refine⟨r,λE Z π σ ρ w fr as us m0 m v ws M y g=>?_⟩;unfold m4j at g;split at g;case h_2=>exact g.elim
 rename_i I;let ⟨F,m1,g,Q,g2,T⟩:=l5g _ _ _ g (λH x h=>by cases h) (λH x h=>by cases h);let ⟨p,B,q,Y,g⟩:=g;obtain⟨z,m2,_,rfl,rfl⟩:=d4r g;unfold m2q at C;simp [qB]at C;unfold crun at B;split at B;case h_2=>cases B
 rename_i c N;refine Calls.of_WP  X N rfl (by rw[<-y7.length y];exact qW I) ?_;have t:∀(b:U.St)l a j k,Rel (m52 Z π F w) l a b j k->m2y P fn b=some p->∃v,(results fn (Fr fn.ntmps j).tmps).run P k=.ok v k/\∀d,∃W L,Rel E W L (σ.app d q.1 q.2.1) (b20 ρ d v) k:=by intro b l a j k o s;let ⟨v,hv,e,S⟩:=l9i K o C.2.2 s;subst e;exact⟨v,hv,λd=>M.back Q o S Y z d⟩
 exact l4c K G V c an _ _ p (by have:=C.2.1;rw[N]at this;exact this) B _ ⟨λb l a j k o s=>t b l a j k o s,(λi b l a j k o s=>by cases s),λb l a j k o s=>t b l a j k o s⟩ Z π _ w (M.sub K Q g2 y (λH D=>T H (.inr D)) _)
end
section
variable {U:Uni} {P:Program} {Φ:Phi U} {n:Nat}
def m57(P:Program)(tb:FuncId->A3 (Func×Ann U.C))(Φ:Phi U):Nat->Phi U|0=>Φ|n+1=>λf c=>match Φ f c with|some a=>some a|none=>match tb f with|some (e,b)=>some ⟨⟨[],[]⟩,Unit,λ_=>none,λ_=>((),()),some (.qy (m4j P (m57 P tb Φ n) e b))⟩|none=>none
def TBC(P:Program)(tb:FuncId->A3 (Func×Ann U.C)):Prop:=∀f a b,tb f=some (a,b)->P.funcs[f]?=some a/\b44 P f/\m2q a=true
def l8t(e:UOK U)(d:P.follows .mixedOrders=true){tb:FuncId->A3 (Func×Ann U.C)}(b:TBC P tb)(a:OKΦ P Φ):∀n,OKΦ P (m57 P tb Φ n)
 |0=>a|n+1=>λf m r h=>by
   simp [m57]at h;split at h;.rename_i k c;cases h;exact a f m _ c
   .split at h;.rename_i o j i;cases h;let ⟨p,g,q⟩:=b f o j i;exact l7m e d (l8t e d b a n) p g q
    .cases h
def lkTC:O (Nat×Func×Ann U.C)->FuncId->A3 (Func×Ann U.C):=λl f=>lk f l
def m2o(P:Program):O (Nat×Func×Ann U.C)->Prop|[]=>True|q::l=>(P.funcs[q.1]?=some q.2.1/\(m2q q.2.1&&!q.2.1.name== "runtime.NumGoroutine")=true)/\m2o P l
def m0g:∀{l:O (Nat×Func×Ann U.C)},m2o P l->TBC P (lkTC l)
 |[],_,f,a,d,h=>by cases h|(i,q)::l,m,f,a,d,h=>by
   have h:lk f _=some _:=h;rw[d3g]at h;by_cases e:i=f
   .subst e;rw[if_pos rfl]at h;obtain rfl:=qH h;let ⟨j,b⟩:=m.1;simp [qB]at b;have g:=by have:=b.1;unfold m2q at this;simp [qB]at this;exact this.1
    refine⟨j,λk w=>?_,b.1⟩;have p:(a.name== "runtime.NumGoroutine")=false:=by simpa using b.2
    have r:a.body.isNone=false:=by cases h:a.body with|none=>rw[h]at g;cases g|some c=>rfl
    change Sem.run P (match P.funcs[i]?with|none=>_|some a=>_) w=_;rw[j];simp only[p,r];rfl
   .rw[if_neg e]at h;exact m0g m.2 f a d h
def l8z(J:UOK U)(s:P.follows .mixedOrders=true)(p:OKΦ P Φ){f:FuncId}{fn:Func}{an:Ann U.C}(E:P.funcs[f]?=some fn)(a:b44 P f)(y:m2q fn=true){c:U.C}{x:U.T c}{e:Bool}(z:(inj c x:U.AV)=.bool e)(g:((m4j P Φ fn an 0 []).eval (⟨[],[],0⟩:U.St) 0 λ_ v _=>match v with|.bool b=>some b|_=>none)=some e):Spec P f (⟨⟨[],[.v c]⟩,U.T c,λ_=>some x,w1,none⟩:Fent U):=by
 intro Q b A Z G w I l F;obtain rfl:I=[]:=eq_nil_of_length_eq_zero l;obtain rfl:x=b:=qH A;let ⟨m,v,C,q,d⟩:=c8x g;have H:=(l7m J s p E a y).2 _ Z _ _ _ w 0 [] [] 0 m v C F trivial q;refine H.mono λM N⟨u,D,K⟩=>⟨u,D,?_⟩;let ⟨B,t,h⟩:=K (some 0);split at d
 .cases d;refine⟨⟨B,[u],[],rfl,h.zout,λb r=>?_,h.ext,rfl,λ_ _ _ _=>rfl,⟨(show a1p _ _ u by rw[z];exact (h.slot 0)),trivial⟩,trivial,(λv d=>by cases d),λi j v L b _ d=>by cases d⟩⟩;rcases h.zin b r with k|k|k;.exact .inl k
  .exact .inr (.inl k)
  .exact .inr (.inr ⟨k,h.zlt b r⟩)
 .cases d
end
def m4i{a:Type}(bytes:Nat)(l:O a)(i:Int)(x:O a):A3 (O a):=match x with|[y]=>if 0<=i/\i<=(l.length:Int)/\(l.length+1)*bytes<=140737488355328then some (l.take i.toNat++y::l.drop i.toNat)else none|_=>none
def ea(l:O (Nat×Ground)):Array Edge:=(l.map λq=>⟨q.1,q.2⟩).toArray
def in0(t i b:TypeId)(f:FuncId):O Oper:=[⟨some 6,.assign (.const (.slice none 0 0)),t,"slices.go:136",#[],none⟩]
def in1(t i b:TypeId)(f:FuncId):O Oper:=[⟨some 10,.move (.tmp 0),t,"slices.go:137",#[],none⟩,⟨some 11,.move (.tmp 1),i,"slices.go:137",#[],none⟩,⟨some 12,.slice t (.tmp 10) (some (.tmp 11)) none none,t,"slices.go:137",ea [(0,.data),(1,.data)],none⟩]
def in2(t i b:TypeId)(f:FuncId):O Oper:=[⟨some 13,.move (.tmp 2),t,"slices.go:139",#[],none⟩,⟨some 14,.call {callee:=.builtin .len,args:=#[.tmp 13],argTypes:=#[t]},i,"slices.go:139",ea [(0,.data)],none⟩,⟨some 7,.assign (.tmp 14),i,"slices.go:139",ea [(1,.data),(0,.phase),(1,.phase)],none⟩]
def in3(t i b:TypeId)(f:FuncId):O Oper:=[⟨some 15,.move (.tmp 7),i,"slices.go:140",#[],none⟩,⟨some 16,.binOp .eql i (.tmp 15) (.const (.int .i64 0)) i,b,"slices.go:140",ea [(0,.data)],none⟩]
def in5(t i b:TypeId)(f:FuncId):O Oper:=[⟨some 18,.move (.tmp 0),t,"slices.go:143",#[],none⟩,⟨some 19,.call {callee:=.builtin .len,args:=#[.tmp 18],argTypes:=#[t]},i,"slices.go:143",ea [(0,.data)],none⟩,⟨some 8,.assign (.tmp 19),i,"slices.go:143",ea [(1,.data),(0,.phase),(1,.phase)],none⟩]
def in6(t i b:TypeId)(f:FuncId):O Oper:=[⟨some 20,.move (.tmp 1),i,"slices.go:144",#[],none⟩,⟨some 21,.move (.tmp 8),i,"slices.go:144",#[],none⟩,⟨some 22,.binOp .eql i (.tmp 20) (.tmp 21) i,b,"slices.go:144",ea [(0,.data),(1,.data)],none⟩]
def in7(t i b:TypeId)(f:FuncId):O Oper:=[⟨some 23,.move (.tmp 0),t,"slices.go:145",#[],none⟩,⟨some 24,.move (.tmp 2),t,"slices.go:145",#[],none⟩,⟨some 25,.call {callee:=.builtin .append,args:=#[.tmp 23,.tmp 24],argTypes:=#[t,t]},t,"slices.go:145",ea [(0,.data),(1,.data)],none⟩,⟨some 6,.assign (.tmp 25),t,"slices.go:145",ea [(2,.data),(2,.chain),(0,.phase),(1,.phase),(2,.phase)],none⟩]
def in8(t i b:TypeId)(f:FuncId):O Oper:=[⟨some 26,.move (.tmp 8),i,"slices.go:147",#[],none⟩,⟨some 27,.move (.tmp 7),i,"slices.go:147",#[],none⟩,⟨some 28,.binOp .add i (.tmp 26) (.tmp 27) i,i,"slices.go:147",ea [(0,.data),(1,.data)],none⟩,⟨some 29,.move (.tmp 0),t,"slices.go:147",#[],none⟩,⟨some 30,.call {callee:=.builtin .cap,args:=#[.tmp 29],argTypes:=#[t]},i,"slices.go:147",ea [(3,.data)],none⟩,⟨some 31,.binOp .gtr i (.tmp 28) (.tmp 30) i,b,"slices.go:147",ea [(2,.data),(4,.data)],none⟩]
def in9(t i b:TypeId)(f:FuncId):O Oper:=[⟨some 32,.move (.tmp 0),t,"slices.go:152",#[],none⟩,⟨some 33,.move (.tmp 1),i,"slices.go:152",#[],none⟩,⟨some 34,.slice t (.tmp 32) none (some (.tmp 33)) none,t,"slices.go:152",ea [(0,.data),(1,.data)],none⟩,⟨some 35,.move (.tmp 8),i,"slices.go:152",#[],none⟩,⟨some 36,.move (.tmp 7),i,"slices.go:152",#[],none⟩,⟨some 37,.binOp .add i (.tmp 35) (.tmp 36) i,i,"slices.go:152",ea [(3,.data),(4,.data)],none⟩,⟨some 38,.move (.tmp 1),i,"slices.go:152",#[],none⟩,⟨some 39,.binOp .sub i (.tmp 37) (.tmp 38) i,i,"slices.go:152",ea [(5,.data),(6,.data)],none⟩,⟨some 40,.call {callee:=.builtin .append,args:=#[.tmp 34,.tmp 39],argTypes:=#[t,i]},t,"slices.go:152",ea [(2,.data),(7,.data)],none⟩,⟨some 9,.assign (.tmp 40),t,"slices.go:152",ea [(8,.data),(8,.chain),(0,.phase),(1,.phase),(2,.phase),(3,.phase),(4,.phase),(5,.phase),(6,.phase),(7,.phase),(8,.phase)],none⟩]
def in10(t i b:TypeId)(f:FuncId):O Oper:=[⟨some 41,.move (.tmp 9),t,"slices.go:153",#[],none⟩,⟨some 42,.move (.tmp 1),i,"slices.go:153",#[],none⟩,⟨some 43,.slice t (.tmp 41) (some (.tmp 42)) none none,t,"slices.go:153",ea [(0,.data),(1,.data)],none⟩,⟨some 44,.move (.tmp 2),t,"slices.go:153",#[],none⟩,⟨some 45,.call {callee:=.builtin .copy,args:=#[.tmp 43,.tmp 44],argTypes:=#[t,t]},i,"slices.go:153",ea [(2,.data),(3,.data)],none⟩]
def in11(t i b:TypeId)(f:FuncId):O Oper:=[⟨some 46,.move (.tmp 9),t,"slices.go:154",#[],none⟩,⟨some 47,.move (.tmp 1),i,"slices.go:154",#[],none⟩,⟨some 48,.move (.tmp 7),i,"slices.go:154",#[],none⟩,⟨some 49,.binOp .add i (.tmp 47) (.tmp 48) i,i,"slices.go:154",ea [(1,.data),(2,.data)],none⟩,⟨some 50,.slice t (.tmp 46) (some (.tmp 49)) none none,t,"slices.go:154",ea [(0,.data),(3,.data)],none⟩,⟨some 51,.move (.tmp 0),t,"slices.go:154",#[],none⟩,⟨some 52,.move (.tmp 1),i,"slices.go:154",#[],none⟩,⟨some 53,.slice t (.tmp 51) (some (.tmp 52)) none none,t,"slices.go:154",ea [(5,.data),(6,.data)],none⟩,⟨some 54,.call {callee:=.builtin .copy,args:=#[.tmp 50,.tmp 53],argTypes:=#[t,t]},i,"slices.go:154",ea [(4,.data),(7,.data)],none⟩]
def in12(t i b:TypeId)(f:FuncId):O Oper:=[⟨some 55,.move (.tmp 9),t,"slices.go:155",#[],none⟩,⟨some 6,.assign (.tmp 55),t,"slices.go:155",ea [(0,.data),(0,.phase)],none⟩]
def in13(t i b:TypeId)(f:FuncId):O Oper:=[⟨some 56,.move (.tmp 0),t,"slices.go:157",#[],none⟩,⟨some 57,.move (.tmp 8),i,"slices.go:157",#[],none⟩,⟨some 58,.move (.tmp 7),i,"slices.go:157",#[],none⟩,⟨some 59,.binOp .add i (.tmp 57) (.tmp 58) i,i,"slices.go:157",ea [(1,.data),(2,.data)],none⟩,⟨some 60,.slice t (.tmp 56) none (some (.tmp 59)) none,t,"slices.go:157",ea [(0,.data),(3,.data)],none⟩,⟨some 0,.assign (.tmp 60),t,"slices.go:157",ea [(4,.data),(0,.phase),(1,.phase),(2,.phase),(3,.phase),(4,.phase)],none⟩]
def in14(t i b:TypeId)(f:FuncId):O Oper:=[⟨some 61,.move (.tmp 2),t,"slices.go:173",#[],none⟩,⟨some 62,.move (.tmp 0),t,"slices.go:173",#[],none⟩,⟨some 63,.move (.tmp 1),i,"slices.go:173",#[],none⟩,⟨some 64,.move (.tmp 7),i,"slices.go:173",#[],none⟩,⟨some 65,.binOp .add i (.tmp 63) (.tmp 64) i,i,"slices.go:173",ea [(2,.data),(3,.data)],none⟩,⟨some 66,.slice t (.tmp 62) (some (.tmp 65)) none none,t,"slices.go:173",ea [(1,.data),(4,.data)],none⟩,⟨some 67,.call {callee:=.value (.func f),args:=#[.tmp 61,.tmp 66],argTypes:=#[t,t]},b,"slices.go:173",ea [(0,.data),(5,.data)],none⟩,⟨some 68,.unOp .not b (.tmp 67),b,"slices.go:173",ea [(6,.data)],none⟩]
def in15(t i b:TypeId)(f:FuncId):O Oper:=[⟨some 69,.move (.tmp 0),t,"slices.go:178",#[],none⟩,⟨some 70,.move (.tmp 1),i,"slices.go:178",#[],none⟩,⟨some 71,.move (.tmp 7),i,"slices.go:178",#[],none⟩,⟨some 72,.binOp .add i (.tmp 70) (.tmp 71) i,i,"slices.go:178",ea [(1,.data),(2,.data)],none⟩,⟨some 73,.slice t (.tmp 69) (some (.tmp 72)) none none,t,"slices.go:178",ea [(0,.data),(3,.data)],none⟩,⟨some 74,.move (.tmp 0),t,"slices.go:178",#[],none⟩,⟨some 75,.move (.tmp 1),i,"slices.go:178",#[],none⟩,⟨some 76,.slice t (.tmp 74) (some (.tmp 75)) none none,t,"slices.go:178",ea [(5,.data),(6,.data)],none⟩,⟨some 77,.call {callee:=.builtin .copy,args:=#[.tmp 73,.tmp 76],argTypes:=#[t,t]},i,"slices.go:178",ea [(4,.data),(7,.data)],none⟩]
def in16(t i b:TypeId)(f:FuncId):O Oper:=[⟨some 78,.move (.tmp 0),t,"slices.go:186",#[],none⟩,⟨some 79,.move (.tmp 1),i,"slices.go:186",#[],none⟩,⟨some 80,.slice t (.tmp 78) (some (.tmp 79)) none none,t,"slices.go:186",ea [(0,.data),(1,.data)],none⟩,⟨some 81,.move (.tmp 2),t,"slices.go:186",#[],none⟩,⟨some 82,.call {callee:=.builtin .copy,args:=#[.tmp 80,.tmp 81],argTypes:=#[t,t]},i,"slices.go:186",ea [(2,.data),(3,.data)],none⟩]
def in17(t i b:TypeId)(f:FuncId):O Oper:=[⟨some 83,.move (.tmp 0),t,"slices.go:193",#[],none⟩,⟨some 6,.assign (.tmp 83),t,"slices.go:193",ea [(0,.data),(0,.phase)],none⟩]
def l8h(t i b:TypeId)(f:FuncId)(c4 cT:Code):Code:=.seq (.region 0 (in0 t i b f).toArray false) (.seq (.region 1 (in1 t i b f).toArray false) (.seq (.region 2 (in2 t i b f).toArray false) (.seq (.seq (.region 3 (in3 t i b f).toArray false) (.cond (.tmp 16) c4 .skip)) (.seq (.region 5 (in5 t i b f).toArray false) (.seq (.seq (.region 6 (in6 t i b f).toArray false) (.cond (.tmp 22) (.seq (.region 7 (in7 t i b f).toArray false) .ret) .skip)) (.seq (.seq (.region 8 (in8 t i b f).toArray false) (.cond (.tmp 31) (.seq (.region 9 (in9 t i b f).toArray false) (.seq (.region 10 (in10 t i b f).toArray false) (.seq (.region 11 (in11 t i b f).toArray true) (.seq (.region 12 (in12 t i b f).toArray false) .ret)))) .skip)) (.seq (.region 13 (in13 t i b f).toArray false) (.seq (.seq (.region 14 (in14 t i b f).toArray false) (.cond (.tmp 68) (.seq (.region 15 (in15 t i b f).toArray true) (.seq (.region 16 (in16 t i b f).toArray false) (.seq (.region 17 (in17 t i b f).toArray false) .ret))) .skip)) cT))))))))
section
variable {P:Program} {n:Nat}
def ValP(P:Program)(d0:Nat)(v b:Nat->A5)(i:Nat)(o:Oper):Prop:=o.guard=none/\o.dst=some (d0+i)/\∀a w,(∀j,(o.after.any λx=>Region.binds .any x&&x.on==j)=true->a (d0+j)=v j)->(∀t,t<d0->a t=b t)->YV P (ev a) w o (v i)
def m4l(P:Program)(d0:Nat)(v a:Nat->A5):Nat->O Oper->Prop|_,[]=>True|i,o::r=>ValP P d0 v a i o/\m4l P d0 v a (i+1) r
def m4l.get{d0:Nat}{v c:Nat->A5}{o:Oper}:∀(b:O Oper)(i k:Nat),m4l P d0 v c i b->b[k]?=some o->ValP P d0 v c (i+k) o:=by intro b;induction b with|nil=>intro i k h e;cases e|cons a l d=>intro i k h e;cases k with|zero=>cases e;exact h.1|succ k=>have:=d _ k h.2 e;rwa[show i+1+k=i+(k+1)by omega]at this
def WP.vals{Q:Exit->(Nat->A5)->World->Prop}{C:Nat->A5}{T:World}{id d0 m:Nat}{b:O Oper}{U:Oper}{v:Nat->A5}(X:P.follows .mixedOrders=true)(hc:(Plan.okTmps b n&&(Plan.okSel b&&(Plan.okAfter b&&(Nat.beq b.length (m+1)&&(List.range m).all ((g6n b).getD m 0).testBit))))=true)(hl:b[m]?=some U)(hg:U.guard=none)(hv:m4l P d0 v C 0 (b.take m))(N:∀ρ w,w=T.drew->(∀k,k<m->ρ (d0+k)=v k)->(∀t,t<d0->ρ t=C t)->a0k P U (ev ρ) w λu w'=>Q .normal (b20 ρ U.dst u) w'):WP P n (.region id b.toArray true) Q C T:=by
 simp only[qB]at hc;obtain⟨hT,hS,hA,B,W⟩:=hc;have B:=qC B;intro rr ds _;refine wpIn_region_any X ?_;have main:∀(d:Nat)(L:Array Bool)(ρ:Nat->A5),L.size=b.length->(∀l:O Nat,l.Nodup->(∀i∈l,L.getD i true=false)->l.length<=d)->L.getD m false=false->(∀(j:Nat)(o:Oper),b[j]?=some o->L.getD j false=true->∀x∈o.after,Region.binds .any x=true->L.getD x.on false=true)->(∀k,L.getD k false=true->ρ (d0+k)=v k)->(∀t,t<d0->ρ t=C t)->wpAnyIn (FR rr) 9 P .any b.toArray (λe a w=>∃ρ',a=Frd n ρ' ds/\Q e ρ' w) d L (Frd n ρ ds) T.drew:=by
  intro d;induction d with|zero=>
    intro L ρ J hf z
    have:=hf [m] (by simp) (by simp only[qF];rintro i rfl;have h:i<L.size:=by omega
                               simpa[Array.getD,h]using z);simp at this|succ d ih=>
    intro L ρ J hf z hcl hk ht;have hlt:∀j,L.getD j false=true->j<b.length:=λj c=>by
     rcases Nat.lt_or_ge j L.size with p|p;.omega
     .simp[Array.getD,Nat.not_lt.2 p]at c
    refine⟨λV=>?_,λi S=>?_⟩
    .have all:∀i,i<b.length->L.getD i false=true:=by intro i;induction i using Nat.strongRecOn with|_ i ihi=>intro S;cases hl:L.getD i false with|true=>rfl|false=>
          have R:i<L.size:=by omega
          have X:i∈Region.ready .any b.toArray L:=by rw[mem_ready];refine⟨by simp[R]at hl⊢;omega,b[i],by simp[S],λx D W=>?_⟩;have p:=f2m hA S;rw[qG S]at p;have g:=qX.1 p x (Array.mem_toList_iff.2 D);simp only[W,qU,Bool.false_or,decide_eq_true_eq]at g;exact ihi x.on g (by omega)
          rw[V]at X;cases X
     rw[all m (by omega)]at z;cases z
    .obtain⟨Z,o,q,y⟩:=mem_ready.1 S;have q:b[i]?=some o:=by simpa using q
     have R:i<b.length:=(qD.1 q).1;have E:i<L.size:=by omega
     have H:∀j,((g6n b).getD i 0).testBit j=true->L.getD j false=true:=λj c=>c9g (L:=λk=>L.getD k false=true) hcl hlt i j R (λo' r=>by rw[q]at r;cases r;exactλx D W=>y x (by simpa using D) W) c;unfold wpOpIn;simp only[List.getElem?_toArray,q];have hgo:o.guard=none:=by
      by_cases e:i=m;.rw[e,hl]at q;cases q;exact hg
      .exact(hv.get _ 0 i (by rw[List.getElem?_take_of_lt (by omega)];exact q)).1
     rw[if_pos (by unfold Region.wanted;rw[hgo])];by_cases e:i=m
     .subst e;obtain rfl:U=o:=qH (hl.symm.trans q);refine a0k.wp (K:=λu w'=>Q .normal (b20 ρ U.dst u) w') ?_ λu w' p=>?_;.have p:=N ρ T.drew rfl (λk A=>hk k (H k (f2m W A))) ht;unfold a0k at p⊢;rwa[c0s hT hS q ρ]
      .rw[c6r];have all:∀k,k<b.length->(L.setIfInBounds i true).getD k false=true:=λk A=>by
        by_cases Y:i=k;.subst Y;simp[E]
        .rw[getD_set_ne false Y];exact H k (f2m W (by omega))
       have V:Region.ready .any b.toArray (L.setIfInBounds i true)=[]:=by cases V:Region.ready .any b.toArray (L.setIfInBounds i true)with|nil=>rfl|cons x xs=>
          have D:x∈Region.ready .any b.toArray (L.setIfInBounds i true):=by rw[V];simp
          obtain⟨g,o2,h3,_⟩:=mem_ready.1 D;have hxl:x<b.length:=(qD.1 (by simpa using h3)).1;have:=all x hxl;simp[E,J,hxl]at this g;simp_all
       cases d with|zero=>exact⟨V,_,rfl,p⟩|succ f=>exact⟨λ_=>⟨_,rfl,p⟩,λj c=>by rw[V]at c;cases c⟩
     .have hV:=hv.get _ 0 i (by rw[List.getElem?_take_of_lt (by omega)];exact q);rw[Nat.zero_add]at hV;obtain⟨_,hd,hy⟩:=hV;have hy:=hy ρ T.drew (λj c=>by rw[Array.any_eq_true']at c;obtain⟨x,D,s⟩:=c;simp only[qB,beq_iff_eq]at s;rw[<-s.2];exact hk _ (y x D s.1)) ht;refine a0k.wp (K:=λu w'=>u=v i/\w'=T.drew) ?_ λu w' p=>?_;.unfold YV at hy;unfold a0k;rw[c0s hT hS q ρ,hy];exact⟨rfl,rfl⟩
      .rw[p.1,p.2,c6r,hd];have I:∀k,(L.setIfInBounds i true).getD k false=true↔(k=i\/L.getD k false=true):=λk=>by
        by_cases Y:k=i;.subst Y;simp[E]
        .rw[getD_set_ne false (Ne.symm Y)];simp[Y]
       refine ih _ _ (by simpa using J) (λl M F=>?_) ?_ (λj o' r c x D s=>?_) (λk A=>?_) λt ht'=>?_
       .have g:=hf (i::l) (List.nodup_cons.2 ⟨λX=>by have:=F i X;simp[E]at this,M⟩) λj c=>by
         rcases qO.1 c with rfl|c;.exact Z
         .have h3:=F j c;by_cases e3:i=j;.subst e3;exact Z
          .rwa[getD_set_ne true e3]at h3
        simpa using g
       .rw[getD_set_ne false e];exact z
       .rw[I]at c⊢;rcases c with rfl|c;.rw[q]at r;cases r;exact .inr (y x D s)
        .exact .inr (hcl j o' r c x D s)
       .rw[I]at A;by_cases e3:k=i;.subst e3;exact f6c ..
        .rw[show b20 ρ (some (d0+i)) (v i) (d0+k)=ρ (d0+k)from c1l _ _ (by omega)];exact hk k (A.resolve_left e3)
       .rw[show b20 ρ (some (d0+i)) (v i) t=ρ t from c1l _ _ (by omega)];exact ht t ht'
 exact main b.length (Array.replicate b.length false) C (by simp) (λl M F=>c11 _ l M λi S=>by
  have p:=F i S;rcases Nat.lt_or_ge i b.length with g|g;.exact g
  .simp[Nat.not_lt.2 g]at p) (by simp[B]) (λj o q c=>by rcases Nat.lt_or_ge j b.length with g|g<;>simp[g]at c) (λk hk=>by rcases Nat.lt_or_ge k b.length with g|g<;>simp[g]at hk) λ_ _=>rfl
end
section
variable {P:Program}
def c7o.y{o:Oper}{r:O Oper}{K:(Nat->A5)->World->Prop}{ρ:Nat->A5}{w:World}{v:A5}(a:o.guard=none)(h:YV P (ev ρ) w o v)(k:c7o P r K (b20 ρ o.dst v) w):c7o P (o::r) K ρ w:=⟨a,by unfold a0k;rw[h];exact k⟩
def c7o.yw{o:Oper}{r:O Oper}{K:(Nat->A5)->World->Prop}{ρ:Nat->A5}{w w':World}{v:A5}(a:o.guard=none)(h:(execOp (ev ρ) o).run P w=.ok (.value v) w')(k:c7o P r K (b20 ρ o.dst v) w'):c7o P (o::r) K ρ w:=⟨a,by unfold a0k;rw[h];exact k⟩
variable {η:Operand -> A5} {w:World} {d:A3 Tmp} {t i e ty:TypeId} {ps:String} {af:Array Edge} {x y lo:Operand} {n g o L cap a:Nat}
def l7a(j:P.underlying t=some (.slice e))(h:(P.info? e).map (·.size)=some n)(k:η x=.slice (some ⟨g,o,none⟩) L cap)(f:η lo=.int .i64 (a:Int))(l:a<=L)(p:a<cap):YV P η w ⟨d,.slice t x (some lo) none none,ty,ps,af,none⟩ (.slice (some ⟨g,o+a*n,none⟩) (L-a) (cap-a)):=by cases b:P.info? e with|none=>simp_all|some q=>
   simp [b,Option.map_some,Option.some.injEq]at h;have m:¬cap=a:=by omega
   simp[YV,execOp,k,f,Instr.sliceAt,Instr.slice,run_underlying j,Instr.sliceBounds,Instr.sliceBound,asIntOf,l,(by omega),sizeOf,typeInfo,b,h,m,Addr.add_lit]
def m3g(j:P.underlying t=some (.slice e))(m:(P.info? e).map (·.size)=some n)(l:η x=.slice (some ⟨g,o,none⟩) L cap)(h:η lo=.int .i64 (a:Int))(k:a<=cap):YV P η w ⟨d,.slice t x none (some lo) none,ty,ps,af,none⟩ (.slice (some ⟨g,o,none⟩) a cap):=by cases b:P.info? e with|none=>simp_all|some q=>
   have c:(⟨g,o,none⟩:Addr).add 0=⟨g,o,none⟩:=by rfl
   simp[YV,execOp,l,h,Instr.sliceAt,Instr.slice,run_underlying j,Instr.sliceBounds,Instr.sliceBound,asIntOf,k,(by omega),sizeOf,typeInfo,b,c]
def l8w{dT sT:TypeId}{dLen dCap sLen sCap:Nat}{s:Addr}{cur:Array A5}{cs:O A5}(j:P.underlying dT=some (.slice e))(h:(P.info? e).map (·.size)=some n)(p:w.heap[g]?=some (.cells cur e (0,0)))(r:cs.length=Nat.min sLen dLen*n)(m:CA w s cs)(l:o+cs.length<=cur.size)(k:∀v∈cs,v.oneCell'=true):(Builtin.copy_ #[dT,sT] ty #[.slice (some ⟨g,o,none⟩) dLen dCap,.slice (some s) sLen sCap]).run P w=.ok (goInt (Nat.min sLen dLen)) (w.setRow g (cur.toList.take o++cs++cur.toList.drop (o+cs.length)).toArray):=by have f:=run_loadCells_list (P:=P) w s cs m;cases c:P.info? e with|none=>simp_all|some q=>simp [c,Option.map_some,Option.some.injEq]at h;rw[r]at f;simp[Builtin.copy_,run_underlying j,Builtin.lenOf,Builtin.firstCells,sizeOf,typeInfo,c,h,f,(run_storeCells_at P g o e cs 0 cur w p (by simpa using l) k)]
def m4x{A S cs:O A5}(h:w.heap[g]?=some (.cells (A++(cs++S)).toArray e (0,0)))(f:A.length=o):CA w ⟨g,o,none⟩ cs:=by subst f;intro j v c;unfold World.cell?;rw[Addr.add_lit];simp only[h];rw[List.getElem?_toArray,List.getElem?_append_right (by omega),Nat.add_sub_cancel_left,List.getElem?_append_left ((qD.1 c).1),c];rfl
def l53{dT sT:TypeId}{dLen dCap sLen sCap:Nat}{s:Addr}{A M S cs:O A5}(c:P.underlying dT=some (.slice e))(l:(P.info? e).map (·.size)=some n)(b:w.heap[g]?=some (.cells (A++(M++S)).toArray e (0,0)))(k:A.length=o)(f:M.length=cs.length)(j:cs.length=Nat.min sLen dLen*n)(m:CA w s cs)(h:∀v∈cs,v.oneCell'=true):(Builtin.copy_ #[dT,sT] ty #[.slice (some ⟨g,o,none⟩) dLen dCap,.slice (some s) sLen sCap]).run P w=.ok (goInt (Nat.min sLen dLen)) (w.setRow g (A++(cs++S)).toArray):=by subst k;rw[l8w c l b j m (by simp;omega) h,<-f];simp
def l7f{v u z:A5}{w':World}(c:η x=v)(b:η y=u)(h:(Builtin.copy_ #[t,t] i #[v,u]).run P w=.ok z w'):(execOp η ⟨d,.call {callee:=.builtin .copy,args:=#[x,y],argTypes:=#[t,t]},i,ps,af,none⟩).run P w=.ok (.value z) w':=by simp[execOp,resolve,invoke,builtin,c,b,h]
def m58{v u:A5}{lo hi:A3 Operand}{c b:A3 A5}(j:η x=v)(f:lo.map η=c)(k:hi.map η=b)(h:(Instr.sliceAt t v c b none).run P w=.ok u w):YV P η w ⟨d,.slice t x lo hi none,ty,ps,af,none⟩ u:=by subst j f k;simp [YV,execOp,Option.map_none,Sem.run_bind,h,Result.andThen_ok,Sem.run_pure]
def m3r{v u z:A5}{w':World}{s:TypeId}(c:η x=v)(b:η y=u)(h:(Builtin.append_ #[t,s] ty #[v,u]).run P w=.ok z w'):(execOp η ⟨d,.call {callee:=.builtin .append,args:=#[x,y],argTypes:=#[t,s]},ty,ps,af,none⟩).run P w=.ok (.value z) w':=by simp[execOp,resolve,invoke,builtin,c,b,h]
def m0v{b:A3 Addr}{m c:Nat}(f:P.underlying t=some (.slice e))(h:η x=.slice b m c):YV P η w ⟨d,.call {callee:=.builtin .len,args:=#[x],argTypes:=#[t]},i,ps,af,none⟩ (.int .i64 (m:Int)):=by simp[YV,execOp,resolve,invoke,builtin,h,Builtin.len_,Builtin.lenOf,goInt,run_underlying f]
def m2t{b:A3 Addr}{m c:Nat}(f:P.underlying t=some (.slice e))(h:η x=.slice b m c):YV P η w ⟨d,.call {callee:=.builtin .cap,args:=#[x],argTypes:=#[t]},i,ps,af,none⟩ (.int .i64 (c:Int)):=by simp[YV,execOp,resolve,invoke,builtin,h,Builtin.cap_,goInt,run_underlying f]
end
def l76{n:Int}(a:0<=n)(b:n<=9223372036854775807):IntKind.i64.wrap n=n:=by rw[IntKind.wrap_i64];omega
section
variable {α:Type} {P:Program} {f fo:FuncId} {fn:Func} {t i b e:TypeId} {c4 cT:Code} {n bytes:Nat} {cells:α -> O A5} {l:O α} {x:α} {k:Nat} {w:World} {v1 v2:A5}
def InR(e:TypeId)(n:Nat)(cells:α->O A5)(l:O α)(k:Nat)(x:α)(v1:A5)(w:World)(u:A5)(w':World):Prop:=PL.Own 0 e n cells w' u (l.take k++x::l.drop k)/\Ext (λb=>v1.ownBlock=some b) w w'/\∀b,u.ownBlock=some b->v1.ownBlock=some b\/w.heap.size<=b
def l89{g off a:Nat}{A R:O A5}(hn:∀x,(cells x).length=n)(r:k<=l.length)(p:w.heap[g]?=some (.cells (A++((l.take k).flatMap cells++(cells x++((l.drop k).flatMap cells++R)))).toArray e (0,0)))(m:A.length=off)(j:l.length+1<=a)(o:a<=maxLen)(q:a*n<=(l.length+1)*n+R.length):PL.Own 0 e n cells w (.slice (some ⟨g,off,none⟩) (l.length+1) a) (l.take k++x::l.drop k):=by
 have c:(l.take k++x::l.drop k).length=l.length+1:=by simp;omega
 have h:(l.take k++x::l.drop k).flatMap cells=(l.take k).flatMap cells++(cells x++(l.drop k).flatMap cells):=by simp
 have d:((l.take k).flatMap cells++(cells x++(l.drop k).flatMap cells)).length=(l.length+1)*n:=by rw[<-h,a0p hn,c]
 refine .inr ⟨g,off,a,_,by rw[c],Nat.zero_le _,p,by rw[c];exact j,o,?_,?_⟩;.simp only[qL]at d;simp only[List.size_toArray,qL];omega
 .subst m;rw[c,h,<-d];simp only[List.drop_left];rw[show(l.take k).flatMap _++(cells x++((l.drop k).flatMap _++R))=((l.take k).flatMap cells++(cells x++(l.drop k).flatMap cells))++R by simp];exact List.take_left
def l8o{off a:Nat}{cur:Array A5}(hn:∀x,(cells x).length=n)(d:l.length<=a)(g:off+a*n<=cur.size)(c:(cur.toList.drop off).take (l.length*n)=l.flatMap cells)(k:Nat):∃A R,cur=(A++((l.take k).flatMap cells++((l.drop k).flatMap cells++R))).toArray/\A.length=off/\(a-l.length)*n<=R.length:=by
 refine⟨cur.toList.take off,(cur.toList.drop off).drop (l.length*n),?_,by simp;omega,?_⟩;.rw[<-qQ ((l.take k).flatMap _),<-List.flatMap_append,List.take_append_drop,<-c,List.take_append_drop,List.take_append_drop]
 .rw[Nat.sub_mul];simp;omega
def l68{g:Nat}{cs:Array A5}:Ext (λb=>b=g) w (w.setRow g cs):=⟨rfl,rfl,by rfl,by simp,λk _ a=>setRow_other w g k _ a⟩
def l83(hm:P.follows .mixedOrders=true)(hres:fn.results=#[.tmp 6])(N:P.underlying t=some (.slice e))(hti:P.underlying i=some (.int .i64))(E:(P.info? e).map (λi=>(i.zero.map (·.cells.size),i.size,i.bytes))=some (some n,n,bytes))(hpos:0<n)(H:0<bytes)(hn:∀x,(cells x).length=n)(h1:∀x,∀u∈cells x,u.oneCell'=true)(V:(P.info? e).map (·.size)=some n)(hk:k<l.length)(hbig:(l.length+1)*bytes<=140737488355328)(hO:PL.Own 0 e n cells w v1 l)(hX:PL.Own 0 e n cells w v2 [x]){g off d:Nat}(C:v1=.slice (some ⟨g,off,none⟩) l.length d)(hlc:l.length<=d)(hcap:d<l.length+1){ρ:Nat->A5}(r0:ρ 0=v1)(r1:ρ 1=.int .i64 (k:Int))(r2:ρ 2=v2)(r7:ρ 7=.int .i64 1)(r8:ρ 8=.int .i64 (l.length:Int)){Q:Exit->(Nat->A5)->World->Prop}(hQ:∀ρ w',retQ P 95 fn (InR e n cells l k x v1 w) .ret ρ w'->Q .ret ρ w'):WP P 95 (.seq (.region 9 (in9 t i b fo).toArray false) (.seq (.region 10 (in10 t i b fo).toArray false) (.seq (.region 11 (in11 t i b fo).toArray true) (.seq (.region 12 (in12 t i b fo).toArray false) .ret)))) Q ρ w:=by
 have hll:l.length+1<=140737488355328:=Nat.le_trans (Nat.le_mul_of_pos_right _ H) hbig;obtain⟨g2,o2,p,hv2⟩:∃g2 o2 p,v2=.slice (some ⟨g2,o2,none⟩) 1 p:=by
  rcases hX with⟨_,h⟩|⟨g2,o2,p,_,h,_⟩;.cases h
  .exact⟨g2,o2,p,h⟩
 have U:((l.take k).flatMap cells).length=k*n:=by rw[a0p hn,List.length_take,Nat.min_eq_left (by omega)]
 have X:((l.drop k).flatMap cells).length=(l.length-k)*n:=by rw[a0p hn,List.length_drop]
 cases hq:P.info? e with|none=>simp_all|some q=>
   simp only[hq,Option.map_some,Option.some.injEq,Prod.mk.injEq]at E;obtain⟨hz,K,Y⟩:=E;obtain⟨z,hz1,hz2⟩:=Option.map_eq_some_iff.1 hz;have B:=hO.ca C;have hold:(Builtin.firstCells q.size k (.slice (some ⟨g,off,none⟩) k d)).run P w.drew=.ok ((l.take k).flatMap cells).toArray w.drew:=run_firstCells_some (P:=P) w.drew q.size k ⟨g,off,none⟩ k d _ (by rw[K];exact U) λj u hj=>B j u (by have hlt:=(qD.1 hj).1;rw[show l.flatMap cells=(l.take k).flatMap cells++(l.drop k).flatMap cells by rw[<-List.flatMap_append,List.take_append_drop],List.getElem?_append_left hlt];exact hj);have hkk:k+(l.length+1-k)=l.length+1:=by omega
   have s:=Go.Lib.run_append_grow_zeros (P:=P) w t i t e q z .i64 .i64 N hti hq hz1 (some ⟨g,off,none⟩) k d _ hold (l.length+1-k) (by omega) (by omega) (by omega) (by omega) (by have:(l.length+1-k)*q.bytes<=(l.length+1)*q.bytes:=Nat.mul_le_mul_right _ (by omega);rw[Y]at this⊢;omega) (growslice_fits (by omega) (by rw[hkk,Y];omega));rw[hkk]at s;have F:=grownCap_ge w (l.length+1) d e;have D:grownCap w (l.length+1) d e<=maxLen:=grownCap_le_maxLen w (l.length+1) d e (by simp only[maxLen];omega);generalize grownCap w (l.length+1) d e=y at s F D;obtain⟨Z,hZ⟩:∃Z:O A5,Z=(Builtin.zeroCells z.cells (l.length+1-k)++Builtin.zeroCells z.cells (y-(l.length+1))).toList:=⟨_,rfl⟩;have hZl:Z.length=(y-k)*n:=by rw[hZ];simp only[Array.length_toList,Array.size_append,size_zeroCells,hz2,<-Nat.add_mul];congr 1;omega
   have hb0:(((l.take k).flatMap cells).toArray++Builtin.zeroCells z.cells (l.length+1-k)++Builtin.zeroCells z.cells (y-(l.length+1)))=((l.take k).flatMap cells++Z).toArray:=by rw[hZ];apply Array.ext';simp
   rw[hb0]at s;generalize hw1:w.drew.alloc (.cells ((l.take k).flatMap cells++Z).toArray e)=J at s;have hgA:J.heap[w.heap.size]?=some (.cells ((l.take k).flatMap cells++Z).toArray e (0,0)):=by rw[<-hw1];exact heap_alloc_new w.drew _
   have L:Ext noG w J:=by rw[<-hw1];exact⟨rfl,rfl,rfl,by simp,λk hk _=>heap_alloc_old w.drew _ hk⟩
   refine WP.seq (WP.straight rfl (c7o.y rfl (c08 rfl) (c7o.y rfl (c08 rfl) (c7o.y rfl (m3g N V (r0.trans C) r1 (by omega)) (c7o.y rfl (c08 rfl) (c7o.y rfl (c08 rfl) (c7o.y rfl (g98 r8 r7 (l76 (by omega) (by omega))) (c7o.y rfl (c08 rfl) (c7o.y rfl (g52 rfl r1 (c:=((l.length+1-k:Nat):Int)) (by rw[l76 (by omega) (by omega)];omega)) (c7o.yw rfl (m3r rfl rfl s) (c7o.y rfl (b7t rfl) ?_)))))))))));have hxA:CA J ⟨g2,o2,none⟩ (cells x):=by have:=(hX.exn L).ca hv2;simpa using this
   have hZn:n<=Z.length:=by rw[hZl];exact Nat.le_mul_of_pos_left _ (by omega)
   have hZ2:(l.length+1-k)*n<=Z.length:=by rw[hZl];exact Nat.mul_le_mul_right _ (by omega)
   have hsucc:(l.length+1-k)*n=(l.length-k)*n+n:=by rw[show l.length+1-k=(l.length-k)+1by omega,Nat.succ_mul]
   have W:=l53 (P:=P) (ty:=i) (dT:=t) (sT:=t) (dLen:=l.length+1-k) (dCap:=y-k) (sLen:=1) (sCap:=p) (o:=0+k*n) (A:=(l.take k).flatMap cells) (M:=Z.take n) (S:=Z.drop n) N V (by rw[List.take_append_drop];exact hgA) (by rw[U];omega) (by rw[List.length_take,hn];omega) (by rw[hn,show Nat.min 1 (l.length+1-k)=1from Nat.min_eq_left (by omega)];omega) hxA (h1 x);have T:=setRow_heap J w.heap.size _ ((l.take k).flatMap cells++(cells x++Z.drop n)).toArray e (0,0) hgA;have I:Ext (λb=>b=w.heap.size) J (J.setRow w.heap.size ((l.take k).flatMap cells++(cells x++Z.drop n)).toArray):=l68;generalize J.setRow w.heap.size ((l.take k).flatMap cells++(cells x++Z.drop n)).toArray=wB at W T I;refine WP.seq (WP.straight rfl (c7o.y rfl (c08 rfl) (c7o.y rfl (c08 rfl) (c7o.y rfl (l7a N V rfl r1 (by omega) (by omega)) (c7o.y rfl (c08 rfl) (c7o.yw rfl (l7f rfl (r2.trans hv2) W) ?_))))));have hOB:PL.Own 0 e n cells wB v1 l:=(hO.exn L).ext I λb hb h=>by subst h;have:=(hO.lt hb).2;omega
   refine WP.seq (WP.vals hm (d0:=46) (m:=8) (v:=λj=>([.slice (some ⟨w.heap.size,0,none⟩) (l.length+1) y,.int .i64 (k:Int),.int .i64 1,.int .i64 ((k+1:Nat):Int),.slice (some ⟨w.heap.size,0+(k+1)*n,none⟩) (l.length+1-(k+1)) (y-(k+1)),v1,.int .i64 (k:Int),.slice (some ⟨g,off+k*n,none⟩) (l.length-k) (d-k)]:O A5).getD j undef) (by kernel_rfl) rfl rfl ⟨⟨rfl,rfl,λa r u h=>c08 ((h 9 (by decide)).trans (by exact rfl))⟩,⟨rfl,rfl,λa r u h=>c08 ((h 1 (by decide)).trans (by exact r1))⟩,⟨rfl,rfl,λa r u h=>c08 ((h 7 (by decide)).trans (by exact r7))⟩,⟨rfl,rfl,λa r u h=>g98 (show ev a (.tmp 47)=.int .i64 (k:Int)from u 1 (by kernel_rfl)) (show ev a (.tmp 48)=.int .i64 1from u 2 (by kernel_rfl)) (by rw[l76 (by omega) (by omega)];rfl)⟩,⟨rfl,rfl,λa r u h=>l7a N V (show ev a (.tmp 46)=_ from u 0 (by kernel_rfl)) (show ev a (.tmp 49)=.int .i64 ((k+1:Nat):Int)from u 3 (by kernel_rfl)) (by omega) (by omega)⟩,⟨rfl,rfl,λa r u h=>c08 ((h 0 (by decide)).trans (by exact r0))⟩,⟨rfl,rfl,λa r u h=>c08 ((h 1 (by decide)).trans (by exact r1))⟩,⟨rfl,rfl,λa r u h=>l7a N V ((show ev a (.tmp 51)=v1 from u 5 (by kernel_rfl)).trans C) (show ev a (.tmp 52)=.int .i64 (k:Int)from u 6 (by kernel_rfl)) (by omega) (by omega)⟩,trivial⟩ λa r hw hk2 hr=>?_)
   .have G:Ext noG wB r:=by rw[hw];exact⟨rfl,rfl,rfl,Nat.le_refl _,λ_ _ _=>rfl⟩
    have hgz:=(G.block _ (qN.1 T).1 λh=>h).trans T;have B:=((hOB.exn G).ca C).sub (k*n) ((l.length-k)*n);rw[c6c hn,List.take_of_length_le (by omega),Addr.add_lit]at B;have hc2:=l53 (P:=P) (ty:=i) (dT:=t) (sT:=t) (dLen:=l.length+1-(k+1)) (dCap:=y-(k+1)) (sLen:=l.length-k) (sCap:=d-k) (o:=0+(k+1)*n) (A:=(l.take k).flatMap cells++cells x) (M:=(Z.drop n).take ((l.length-k)*n)) (S:=(Z.drop n).drop ((l.length-k)*n)) N V (by rw[List.take_append_drop,qQ];exact hgz) (by rw[qL,U,hn,Nat.succ_mul];omega) (by rw[List.length_take,List.length_drop,X];omega) (by rw[X,show Nat.min (l.length-k) (l.length+1-(k+1))=l.length-k from by rw[show l.length+1-(k+1)=l.length-k by omega];exact Nat.min_self _]) B (e1t h1);have k1:ev a (.tmp 50)=.slice (some ⟨w.heap.size,0+(k+1)*n,none⟩) (l.length+1-(k+1)) (y-(k+1)):=hk2 4 (by decide);have k2:ev a (.tmp 53)=.slice (some ⟨g,off+k*n,none⟩) (l.length-k) (d-k):=hk2 7 (by decide);unfold a0k;rw[l7f k1 k2 hc2];have hf8:=setRow_heap r w.heap.size _ (((l.take k).flatMap cells++cells x)++((l.drop k).flatMap cells++(Z.drop n).drop ((l.length-k)*n))).toArray e (0,0) hgz;have hE:Ext (λb=>b=w.heap.size) wB (r.setRow w.heap.size (((l.take k).flatMap cells++cells x)++((l.drop k).flatMap cells++(Z.drop n).drop ((l.length-k)*n))).toArray):=G.of_no.trans l68;generalize r.setRow w.heap.size (((l.take k).flatMap cells++cells x)++((l.drop k).flatMap cells++(Z.drop n).drop ((l.length-k)*n))).toArray=w' at hf8 hE;have e1:(y-k)*n+k*n=y*n:=by rw[<-Nat.add_mul];congr 1;omega
    have e2:(l.length-k)*n+k*n=l.length*n:=by rw[<-Nat.add_mul];congr 1;omega
    have hEw:Ext noG w w':=(L.own I λx h=>by omega).own hE λx h=>by omega
    refine WP.seq (WP.straight rfl (c7o.y rfl (c08 (hr 9 (by decide))) (c7o.y rfl (b7t rfl) (WP.ret (hQ _ _ (m4o hres (by decide) rfl ⟨l89 (A:=[]) (R:=(Z.drop n).drop ((l.length-k)*n)) hn (by omega) (by rw[List.nil_append,<-qQ];exact hf8) rfl F D ?_,hEw.of_no,λb hb=>.inr ?_⟩))))));.have e3:=Nat.mul_le_mul_right n F;rw[Nat.succ_mul]at e3⊢;simp only[List.length_drop];omega
    .obtain rfl:=qH hb;exact Nat.le_refl _
def m34{g:Operand->A5}{d:A3 Tmp}{ty:TypeId}{ps:String}{af:Array Edge}{y z:Operand}{a c:Addr}{G D E C:Nat}{F s:Array A5}{B A:TypeId}(K:P.underlying t=some (.slice e))(r:(P.info? e).map (·.size)=some n)(o:∀(args:Array A5)(w:World),(callFunc fo args).run P w=((Extern.SlicesOverlaps.overlaps #[t,t] #[b] args).run P w).andThen λv w'=>.ok (.value v) w')(J:g (.func fo)=.func (.func fo) #[] #[])(H:g y=.slice (some a) G D)(L:g z=.slice (some c) E C)(m:a.block≠c.block)(u:w.heap[a.block]?=some (.cells F B (0,0)))(I:w.heap[c.block]?=some (.cells s A (0,0)))(M:0<s.size):YV P g w ⟨d,.call {callee:=.value (.func fo),args:=#[y,z],argTypes:=#[t,t]},ty,ps,af,none⟩ (.bool false):=by
 simp[YV,execOp,resolve,Deferred.ofValue,invoke,J,H,L,o,(Go.Lib.run_overlaps_apart  w t b e K n (λw=>by cases j:P.info? e with|none=>simp[j]at r|some q=>simp[j]at r;simp[sizeOf,typeInfo,j,r]) a c G D E C m B A F.size s.size (by simp[World.shape?,u]) (by simp[World.shape?,I]) (by omega) (by simp[World.frozen?,u]) (by simp[World.frozen?,u])),Result.andThen]
def l7r(hm:P.follows .mixedOrders=true)(N:fn.results=#[.tmp 6])(B:P.underlying t=some (.slice e))(D:(P.info? e).map (·.size)=some n)(hpos:0<n)(hov:∀(args:Array A5)(w:World),(callFunc fo args).run P w=((Extern.SlicesOverlaps.overlaps #[t,t] #[b] args).run P w).andThen λv w'=>.ok (.value v) w')(hn:∀x,(cells x).length=n)(h1:∀x,∀u∈cells x,u.oneCell'=true)(hk:k<l.length)(hX:PL.Own 0 e n cells w v2 [x]){g off d:Nat}{A R:O A5}(z:v1=.slice (some ⟨g,off,none⟩) l.length d)(y:l.length+1<=d)(K:d<=maxLen)(hg:w.heap[g]?=some (.cells (A++((l.take k).flatMap cells++((l.drop k).flatMap cells++R))).toArray e (0,0)))(W:A.length=off)(hR:(d-l.length)*n<=R.length)(Z:∀b,v1.ownBlock=some b->v2.ownBlock≠some b){ρ:Nat->A5}(r0:ρ 0=v1)(X:ρ 1=.int .i64 (k:Int))(r2:ρ 2=v2)(r7:ρ 7=.int .i64 1)(r8:ρ 8=.int .i64 (l.length:Int)){cT:Code}:WP P 95 (.seq (.region 13 (in13 t i b fo).toArray false) (.seq (.seq (.region 14 (in14 t i b fo).toArray false) (.cond (.tmp 68) (.seq (.region 15 (in15 t i b fo).toArray true) (.seq (.region 16 (in16 t i b fo).toArray false) (.seq (.region 17 (in17 t i b fo).toArray false) .ret))) .skip)) cT)) (retQ P 95 fn (InR e n cells l k x v1 w)) ρ w:=by
 obtain⟨E,L,p,q,s,hg2,hs2⟩:∃E L p q,v2=.slice (some ⟨E,L,none⟩) 1 p/\w.heap[E]?=some (.cells q e (0,0))/\0<p:=by
  rcases hX with⟨_,h⟩|⟨E,L,p,q,h,_,h3,h4,_⟩;.cases h
  .exact⟨E,L,p,q,h,h3,h4⟩
 have V:E≠g:=λh=>Z g (by rw[z];rfl) (by rw[s,h];rfl);have F:((l.take k).flatMap cells).length=k*n:=by rw[a0p hn,List.length_take,Nat.min_eq_left (by omega)]
 have I:((l.drop k).flatMap cells).length=(l.length-k)*n:=by rw[a0p hn,List.length_drop]
 have hll:l.length+1<=9223372036854775807:=by simp only[maxLen]at K;omega
 have hnR:n<=R.length:=Nat.le_trans (Nat.le_mul_of_pos_left _ (by omega)) hR;refine WP.seq (WP.straight rfl (c7o.y rfl (c08 r0) (c7o.y rfl (c08 r8) (c7o.y rfl (c08 r7) (c7o.y rfl (g98 (c:=((l.length+1:Nat):Int)) rfl rfl (l76 (by omega) (by omega))) (c7o.y rfl (m3g B D (show _=_ from z) rfl y) (c7o.y rfl (b7t rfl) ?_)))))));refine WP.seq (WP.seq (WP.straight rfl (c7o.y rfl (c08 r2) (c7o.y rfl (c08 rfl) (c7o.y rfl (c08 X) (c7o.y rfl (c08 r7) (c7o.y rfl (g98 (c:=((k+1:Nat):Int)) rfl rfl (l76 (by omega) (by omega))) (c7o.y rfl (l7a B D rfl rfl (by omega) (by omega)) (c7o.y rfl (m34 B D hov rfl (show _=_ from s) rfl V hg2 hg ?_) (c7o.y rfl (f0z rfl rfl) ?_))))))))));.simp only[List.size_toArray,qL];omega
 refine WP.cond (t:=true) rfl rfl (λ_=>?_) λh=>by cases h
 obtain⟨Y,hY⟩:∃Y,Y=((l.drop k).flatMap cells++R).take n:=⟨_,rfl⟩;obtain⟨S,hS⟩:∃S,S=(((l.drop k).flatMap cells++R).drop n).drop ((l.length-k)*n):=⟨_,rfl⟩;have Q:Y.length=n:=by rw[hY,List.length_take,qL];omega
 have hSl:S.length=R.length-n:=by rw[hS];simp only[List.length_drop,qL];omega
 refine WP.seq (WP.vals hm (d0:=69) (m:=8) (v:=λj=>([.slice (some ⟨g,off,none⟩) (l.length+1) d,.int .i64 (k:Int),.int .i64 1,.int .i64 ((k+1:Nat):Int),.slice (some ⟨g,off+(k+1)*n,none⟩) (l.length+1-(k+1)) (d-(k+1)),.slice (some ⟨g,off,none⟩) (l.length+1) d,.int .i64 (k:Int),.slice (some ⟨g,off+k*n,none⟩) (l.length+1-k) (d-k)]:O A5).getD j undef) (by kernel_rfl) rfl rfl ⟨⟨rfl,rfl,λa r u h=>c08 ((h 0 (by decide)).trans (by exact rfl))⟩,⟨rfl,rfl,λa r u h=>c08 ((h 1 (by decide)).trans (by exact X))⟩,⟨rfl,rfl,λa r u h=>c08 ((h 7 (by decide)).trans (by exact r7))⟩,⟨rfl,rfl,λa r u h=>g98 (show ev a (.tmp 70)=.int .i64 (k:Int)from u 1 (by kernel_rfl)) (show ev a (.tmp 71)=.int .i64 1from u 2 (by kernel_rfl)) (l76 (by omega) (by omega))⟩,⟨rfl,rfl,λa r u h=>l7a B D (show ev a (.tmp 69)=_ from u 0 (by kernel_rfl)) (show ev a (.tmp 72)=.int .i64 ((k+1:Nat):Int)from u 3 (by kernel_rfl)) (by omega) (by omega)⟩,⟨rfl,rfl,λa r u h=>c08 ((h 0 (by decide)).trans (by exact rfl))⟩,⟨rfl,rfl,λa r u h=>c08 ((h 1 (by decide)).trans (by exact X))⟩,⟨rfl,rfl,λa r u h=>l7a B D (show ev a (.tmp 74)=_ from u 5 (by kernel_rfl)) (show ev a (.tmp 75)=.int .i64 (k:Int)from u 6 (by kernel_rfl)) (by omega) (by omega)⟩,trivial⟩ λa r hw T hr=>?_)
 .have J:Ext noG w r:=by rw[hw];exact⟨rfl,rfl,rfl,Nat.le_refl _,λ_ _ _=>rfl⟩
  have G:=(J.block _ (qN.1 hg).1 λh=>h).trans hg;have hca:CA r ⟨g,off+k*n,none⟩ ((l.drop k).flatMap cells):=m4x (A:=A++(l.take k).flatMap cells) (S:=R) (e:=e) (by rw[qQ];exact G) (by rw[qL,F,W]);have hc2:=l53 (P:=P) (ty:=i) (dT:=t) (sT:=t) (dLen:=l.length+1-(k+1)) (dCap:=d-(k+1)) (sLen:=l.length+1-k) (sCap:=d-k) (o:=off+(k+1)*n) (A:=A++(l.take k).flatMap cells++Y) (M:=(((l.drop k).flatMap cells++R).drop n).take ((l.length-k)*n)) (S:=S) B D (by rw[hS,hY,List.take_append_drop,qQ,List.take_append_drop,qQ];exact G) (by rw[qL,qL,F,W,Q,Nat.succ_mul];omega) (by rw[List.length_take,List.length_drop,qL,I];omega) (by rw[I];congr 1;simp only[Nat.min_def];split<;>omega) hca (e1t h1);have k1:ev a (.tmp 73)=.slice (some ⟨g,off+(k+1)*n,none⟩) (l.length+1-(k+1)) (d-(k+1)):=T 4 (by decide);have k2:ev a (.tmp 76)=.slice (some ⟨g,off+k*n,none⟩) (l.length+1-k) (d-k):=T 7 (by decide);unfold a0k;rw[l7f k1 k2 hc2];have U:=setRow_heap r g _ ((A++(l.take k).flatMap cells++Y)++((l.drop k).flatMap cells++S)).toArray e (0,0) G;have hE:Ext (λb=>b=g) w (r.setRow g ((A++(l.take k).flatMap cells++Y)++((l.drop k).flatMap cells++S)).toArray):=J.of_no.trans l68;generalize r.setRow g ((A++(l.take k).flatMap cells++Y)++((l.drop k).flatMap cells++S)).toArray=w' at U hE;have hxB:CA w' ⟨E,L,none⟩ (cells x):=by have:=(hX.ext hE λb H h=>by rw[s]at H;exact V ((qH H).trans h)).ca s;simpa using this
  have q0:a 0=.slice (some ⟨g,off,none⟩) (l.length+1) d:=hr 0 (by decide);have q1:a 1=.int .i64 (k:Int):=(hr 1 (by decide)).trans X;have q2:a 2=v2:=(hr 2 (by decide)).trans r2;have C:w'.heap[g]?=some (.cells ((A++(l.take k).flatMap cells)++(Y++((l.drop k).flatMap cells++S))).toArray e (0,0)):=by rw[<-qQ (A++(l.take k).flatMap cells)];exact U
  have hc1:=l53 (P:=P) (ty:=i) (dT:=t) (sT:=t) (dLen:=l.length+1-k) (dCap:=d-k) (sLen:=1) (sCap:=p) (o:=off+k*n) B D C (by rw[qL,F,W]) (by rw[Q,hn]) (by rw[hn,show Nat.min 1 (l.length+1-k)=1from Nat.min_eq_left (by omega)];omega) hxB (h1 x);refine WP.seq (WP.straight rfl (c7o.y rfl (c08 q0) (c7o.y rfl (c08 q1) (c7o.y rfl (l7a B D rfl rfl (by omega) (by omega)) (c7o.y rfl (c08 q2) (c7o.yw rfl (l7f rfl (show _=_ from s) hc1) ?_))))));have e1:(d-l.length)*n+l.length*n=d*n:=by rw[<-Nat.add_mul];congr 1;omega
  have hgC:=setRow_heap w' g _ ((A++(l.take k).flatMap cells)++(cells x++((l.drop k).flatMap cells++S))).toArray e (0,0) C;refine WP.seq (WP.straight rfl (c7o.y rfl (c08 q0) (c7o.y rfl (b7t rfl) (WP.ret (m4o N (by decide) rfl ⟨l89 (A:=A) (R:=S) hn (by omega) (hgC.trans (by rw[qQ])) W y K ?_,?_,λb H=>.inl (by rw[z];exact H)⟩)))));.rw[Nat.succ_mul];omega
  .refine Ext.mono (hE.trans l68) λb H=>?_;rw[z,H];rfl
def l8r(hm:P.follows .mixedOrders=true)(hf:P.funcs[f]?=some fn)(hb:fn.body=some (l8h t i b fo c4 cT))(Y:fn.ntmps=95)(p:fn.results=#[.tmp 6])(I:P.underlying t=some (.slice e))(hti:P.underlying i=some (.int .i64))(d:(P.info? e).map (λi=>(i.zero.map (·.cells.size),i.size,i.bytes))=some (some n,n,bytes))(y:0<n)(a:0<bytes)(hn:∀x,(cells x).length=n)(h1:∀x,∀u∈cells x,u.oneCell'=true)(X:∀(args:Array A5)(w:World),(callFunc fo args).run P w=((Extern.SlicesOverlaps.overlaps #[t,t] #[b] args).run P w).andThen λv w'=>.ok (.value v) w')(hk:k<=l.length)(C:(l.length+1)*bytes<=140737488355328)(M:PL.Own 0 e n cells w v1 l)(N:PL.Own 0 e n cells w v2 [x])(hne:∀b,v1.ownBlock=some b->v2.ownBlock≠some b):Calls P f #[v1,.int .i64 (k:Int),v2] w λq w'=>∃u,q=.returned u/\InR e n cells l k x v1 w u w':=by
 have he:(P.info? e).map (·.size)=some n:=by cases hq:P.info? e with|none=>simp[hq]at d|some q=>simp[hq]at d⊢;omega
 have hll:l.length+1<=140737488355328:=Nat.le_trans (Nat.le_mul_of_pos_right _ a) C;refine Calls.start (args:=[v1,.int .i64 (k:Int),v2]) hf hb Y (by simp) λρ H=>?_;have J:ρ 0=v1:=H 0 _ rfl;have T:ρ 1=.int .i64 (k:Int):=H 1 _ rfl;have Q:ρ 2=v2:=H 2 _ rfl;obtain⟨a1,E,D,K,U⟩:=M.shape;obtain⟨a2,cap2,Z,hd1,hd2⟩:=N.shape;unfold l8h;refine WP.seq (WP.straight rfl (c7o.y rfl (b7t rfl) ?_));obtain⟨z,hz,_⟩:=g60 (P:=P) (s:=some (.int .i64 (k:Int))) (n:=none) (i:=(k:Int)) (j:=(l.length:Int)) (r:=l.drop k) I (R:=TyR.flat n cells hn) he (M.rep (hn:=hn) (G:=noG) λ_ _ h=>h) (by unfold a1x;rw[if_pos (by omega)];congr 1;rw[Int.toNat_natCast];exact List.take_of_length_le (by simp)) (.inr rfl) (.inl ⟨rfl,rfl⟩);refine WP.seq (WP.straight rfl (c7o.y rfl (c08 J) (c7o.y rfl (c08 T) (c7o.y rfl (m58 rfl rfl rfl hz) ?_))));refine WP.seq (WP.straight rfl (c7o.y rfl (c08 Q) (c7o.y rfl (m0v I (show _=_ from Z)) (c7o.y rfl (b7t rfl) ?_))));refine WP.seq (WP.seq (WP.straight rfl (c7o.y rfl (c08 rfl) (c7o.y rfl (h4d (q:=false) rfl rfl rfl) ?_))));refine WP.cond (t:=false) rfl rfl (λh=>by cases h) λ_=>WP.skip ?_;refine WP.seq (WP.straight rfl (c7o.y rfl (c08 J) (c7o.y rfl (m0v I (show _=_ from D)) (c7o.y rfl (b7t rfl) ?_))));refine WP.seq (WP.seq (WP.straight rfl (c7o.y rfl (c08 T) (c7o.y rfl (c08 rfl) (c7o.y rfl (h4d (q:=decide (k=l.length)) rfl rfl (by rw[Bool.eq_iff_iff];simp only[beq_iff_eq,decide_eq_true_eq];omega)) ?_)))));refine WP.cond (t:=decide (k=l.length)) rfl rfl (λh=>?_) λh=>WP.skip ?_;.obtain rfl:=of_decide_eq_true h;obtain⟨u,w',S,h4,h5,W⟩:=d1y (B:=0) (t:=t) (ty:=t) hn h1 I d y a M ⟨noG,N.rep (hn:=hn) (G:=noG) λ_ _ h=>h⟩ C (Nat.zero_le _);refine WP.seq (WP.straight rfl (c7o.y rfl (c08 J) (c7o.y rfl (c08 Q) (c7o.yw rfl (m3r rfl rfl S) (c7o.y rfl (b7t rfl) (WP.ret (m4o p (by decide) rfl ⟨?_,h5,W⟩)))))));rw[List.take_of_length_le (Nat.le_refl _),List.drop_of_length_le (Nat.le_refl _)];exact h4
 .have F:k<l.length:=by have:=of_decide_eq_false h;omega
  obtain⟨g,m,o,L,hg,V,htk⟩:∃g m o,v1=.slice (some ⟨g,m,none⟩) l.length E/\w.heap[g]?=some (.cells o e (0,0))/\m+E*n<=o.size/\(o.toList.drop m).take (l.length*n)=l.flatMap cells:=by
   rcases M with⟨_,h⟩|⟨g,m,cap',o,S,_,h4,_,_,h5,W⟩;.rw[h]at F;simp at F
   .rw[S]at D;cases D;exact⟨g,m,o,S,h4,h5,W⟩
  refine WP.seq (WP.seq (WP.straight rfl (c7o.y rfl (c08 rfl) (c7o.y rfl (c08 rfl) (c7o.y rfl (g98 (c:=((l.length+1:Nat):Int)) rfl rfl (l76 (by simp;omega) (by simp;omega))) (c7o.y rfl (c08 J) (c7o.y rfl (m2t I (show _=_ from D)) (c7o.y rfl (h2t (q:=decide (E<l.length+1)) rfl rfl (by rw[decide_eq_decide];omega)) ?_))))))));refine WP.cond (t:=decide (E<l.length+1)) rfl rfl (λh=>?_) λh=>WP.skip ?_;.change WP P 95 _ _ _ _;exact l83 hm p I hti d y a hn h1 he F C M N L K (of_decide_eq_true h) (by exact J) (by exact T) (by exact Q) (by rfl) (by rfl) λ_ _ h=>h
  .obtain⟨A,R,rfl,hA,hR⟩:=l8o (k:=k) hn K V htk;change WP P 95 _ _ _ _;exact l7r hm p I he y X hn h1 F N L (by have:=of_decide_eq_false h;omega) U hg hA hR hne (by exact J) (by exact T) (by exact Q) (by rfl) (by rfl)
end
def cK4(c:Code):Code:=cB (cA (cB (cB (cB c))))
def cKT(c:Code):Code:=cB (cB (cB (cB (cB (cB (cB (cB (cB c))))))))
section
variable {U:Uni} {P:Program}
@[reducible] def inS(U:Uni)(e:TypeId)(c ci:U.C):Sig U:=⟨[.ow e c,.v ci,.ow e c],[.ow e c]⟩
def inSt(e:TypeId)(c ci:U.C)(a:Args U (inS U e c ci).ps)(r:O (U.T c)):U.St:=(a02 0 (inS U e c ci).ps a).app (some 6) (.ref 3) [(3,.sl e c r),(0,.dead)]
def l9h(hU:UOK U)(hm:P.follows .mixedOrders=true){f fo:FuncId}{fn:Func}{t i b e:TypeId}{c4 cT:Code}{bytes:Nat}{c ci:U.C}{cells:U.T c->O A5}{toI:U.T ci->Int}(hf:P.funcs[f]?=some fn)(C:fn.body=some (l8h t i b fo c4 cT))(I:fn.ntmps=95)(a:fn.results=#[.tmp 6])(ht:P.underlying t=some (.slice e))(R:P.underlying i=some (.int .i64))(D:(P.info? e).map (λi=>(i.zero.map (·.cells.size),i.size,i.bytes))=some (some (U.n c),U.n c,bytes))(B:0<U.n c)(o:0<bytes)(hn:∀x,(cells x).length=U.n c)(h1:∀x,∀u∈cells x,u.oneCell'=true)(M:∀(args:Array A5)(w:World),(callFunc fo args).run P w=((Extern.SlicesOverlaps.overlaps #[t,t] #[b] args).run P w).andThen λv w'=>.ok (.value v) w')(z:∀(G:Nat->Prop)(w:World)(cs:O A5)(x:U.T c),(Rp c).rep G w cs x->cs=cells x)(T:∀(G:Nat->Prop)(w:World)(x:U.T c),(Rp c).rep G w (cells x) x)(hi:∀x:U.T ci,inj ci x=.int .i64 (toI x))(E:∀xs r,e61 P (inS U e c ci) [.tmp 6] (inSt e c ci xs r)=some (w1 r))(L:c1m 95 [.tmp 6]=true):Spec P f (⟨inS U e c ci,O (U.T c),λx=>m4i bytes x.1 (toI x.2.1) x.2.2.1,w1,none⟩:Fent U):=by rintro⟨l,i0,x,_⟩r m Z G w us g s;match us,g with
 |[F,vi,H],g=>
 unfold m4i at m;dsimp only at m;split at m;case h_2=>cases m
 rename_i y;split at m;case isFalse=>cases m
 rename_i hk;obtain rfl:=qH m;obtain⟨k,A⟩:=qT hk.1;have V:AVR _ (inj ci i0) vi:=s.slot 1;rw[hi,A]at V;have m0:MR _ (.sl e c l) F:=s.mem 0;have m2:MR _ (.sl e c [y]) H:=s.mem 2;have hO:=b9b z m0;have hX:=b9b z m2;obtain⟨a1,cap1,j,_⟩:=hO.shape;obtain⟨a2,Y,Q,_⟩:=hX.shape;have e1:vi=.int .i64 (k:Int):=V;subst e1;refine(l8r (b:=b) (c4:=c4) (cT:=cT) hm hf C I a ht R D B o hn h1 M (k:=k) (x:=y) (by omega) hk.2.2 hO hX (λb h h'=>s.dist 0 2 b (by decide) ((a95 j).1 h) ((a95 Q).1 h'))).mono ?_;rintro q w'⟨u,rfl,p,S,K⟩;obtain⟨au,cu,X,_⟩:=p.shape;have hN:=s.new (fr:=3) (mc:=.sl e c (l.take k++y::l.drop k)) (dead:=[0]) (v':=u) (w':=w') rfl (λh=>by cases h) (S.mono λb C=>⟨0,by simp,(a95 j).1 C⟩) (λX' _ hw _=>c39 T p X' hw) (λb C=>?_) (by rw[X];rfl) (d:=some 6)
 .rw[A,Int.toNat_natCast];obtain⟨v,hv,hp⟩:=c2g (n:=95) hU g rfl hN (fn:=fn) (by rw[a];exact L) (by rw[a];exact E _ _);have e2:(results fn (Fr 95 (b20 (c7a ([F,.int .i64 (k:Int),H].take (npK (inS U e c ci).ps))) (some 6) u)).tmps).run P w'=.ok u w':=by obtain⟨v',h3,h4⟩:retQ P 95 fn (λv w=>v=u/\w=w') .ret (b20 _ (some 6) u) w':=m4o a (by decide) rfl ⟨rfl,rfl⟩;rw[h3,h4.1]
  rw[e2]at hv;cases hv;exact⟨u,rfl,hp⟩
 .have W:=(a95 X).2 C;exact⟨(p.lt W).2,(K b W).elim (λh=>.inr ⟨0,by simp,(a95 j).1 h⟩) .inl⟩
end
end Go.SX
