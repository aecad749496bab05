/- Texts of the proof, joined. -/
import Derived.Test.YtpiclagiijpbkaaGreatDoorP1
import Derived.Great.FillDense
import Derived.Great.BuildSlice
set_option linter.defProp false
set_option linter.unusedVariables false
set_option linter.unusedSimpArgs false
set_option maxRecDepth 100000
open List
namespace Go.SX
open Go Go.PL
section
variable {P:Program} {U:Uni} {E:Env} {Z:Nat -> Prop} {π:Nat -> A5} {σ:U.St} {ρ:Nat -> A5} {w:World}
variable {d:A3 Tmp} {ty:TypeId} {ps:String} {af:Array Edge} {g:A3 (Nat×Bool)} {x y z:Operand} {m0 m:Nat} {a b v:U.AV} {ws:O (Nat×U.MC)} {fr:Nat}
def c7u{c:U.C}{l:O (U.T c)}{G:Nat->Prop}{w:World}{u:A5}(h:k9 (Rp c) G w u l):u.oneCell'=true:=by let⟨a,f,e,_⟩:=k9.shape h;subst e;rfl
def e25{G:Nat->Prop}{w:World}{p:U.AV->O A5->Prop}(i:∀a cs,p a cs->∀u∈cs,u.oneCell'=true):∀{as:O U.AV}{css:O (O A5)},y7 p as css->∀u∈css.flatten,u.oneCell'=true
 |[],[],_,u,e=>by simp_all|a::as,c::css,h,u,e=>by
   simp only[flatten_cons,qK]at e;rcases e with e|e;.exact i a c h.1 u e
   .exact e25 (G:=G) (w:=w) i h.2 u e|[],_::_,f,_,_=>f.elim|_::_,[],f,_,_=>f.elim
def f9h{G:Nat->Prop}{w:World}:∀(k:Nat)(c:U.C)(cs:O A5)(x:U.T c),(Rd k c).rep G w cs x->∀u∈cs,u.oneCell'=true|0,_,_,_,h=>False.elim h|k+1,c,cs,x,⟨s,q,i,h⟩=>by subst i;refine e25 (G:=G) (w:=w) (λa cs f u e=>?_) h;cases a<;>simp only[e8]at f<;>first|(subst f;simp at e;subst e;rfl)|exact f9h k _ _ _ f u e|(let⟨v,j,l⟩:=f;subst j;simp at e;subst e;let⟨a,n,p,_⟩:=k9.shape l;subst p;rfl)|(let⟨t,r,i,_⟩:=f;subst i;simp at e;subst e;rfl)|exact f.elim
def f9t{G:Nat->Prop}{w:World}{c:U.C}{cs:O A5}{x:U.T c}(h:(Rp c).rep G w cs x):∀u∈cs,u.oneCell'=true:=by let⟨k,h⟩:=h;exact f9h k c cs x h
def d0s{G:Nat->Prop}{w:World}{c:U.C}{cs:O A5}{x:U.T c}(h:(Rp c).rep G w cs x):Raw (U.n c):=⟨cs,(Rp c).len h,f9t h⟩
abbrev RAW(n:Nat):TyR (Raw n):=TyR.flat n Subtype.val (λr=>r.2.1)
def f2w{G:Nat->Prop}{w:World}{c:U.C}{u:A5}{l:O (U.T c)}(h:k9 (Rp c) G w u l):∃css:O (Raw (U.n c)),k9 (RAW (U.n c)) G w u css/\y7 (λ(r:Raw (U.n c))x=>(Rp c).rep G w r.1 x) css l:=by
 rcases h with⟨I,L⟩|⟨a,A,I,N,J,M⟩;.subst L;exact⟨[],.inl ⟨I,rfl⟩,trivial⟩
 .have t:∀(k:Nat)(e:O _),(∀i x,e[i]?=some x->∃q,(Rp c).rep G w q x/\a.block<w.heap.size/\¬G a.block/\CA w (a.add ((k+i)*(Rp c).n)) q)->∃css:O (Raw (U.n c)),css.length=e.length/\y7 (λ(r)x=>(Rp c).rep G w r.1 x) css e/\∀i r,css[i]?=some r->a.block<w.heap.size/\¬G a.block/\CA w (a.add ((k+i)*U.n c)) r.1:=by intro k e;induction e generalizing k with|nil=>intro _;exact⟨[],rfl,trivial,λi r h=>by simp at h⟩|cons y e K=>
     intro F;let⟨q,H,C,s,j⟩:=F 0 y rfl;let⟨css,D,p,B⟩:=K (k+1) λi x o=>by have:=F (i+1) x (by simpa using o);rwa[show k+(i+1)=k+1+i by omega]at this
     refine⟨d0s H::css,by simp[D],⟨H,p⟩,λi r f=>?_⟩;cases i with|zero=>simp at f;subst f;exact⟨C,s,j⟩|succ i=>have:=B i r (by simpa using f);rwa[show k+1+i=k+(i+1)by omega]at this
  let⟨css,D,p,B⟩:=t 0 l λi x o=>by simpa using M i x o
  refine⟨css,.inr ⟨a,A,by rw[D];omega,by omega,J,λi r f=>?_⟩,p⟩;let⟨C,s,j⟩:=B i r f;rw[Nat.zero_add]at j;exact⟨r.1,rfl,C,s,j⟩
def f8j{G j:Nat->Prop}{w:World}{c:U.C}{u:A5}{l:O (U.T c)}{css:O (Raw (U.n c))}(h:k9 (RAW (U.n c)) G w u css)(n:y7 (λ(r:Raw (U.n c))x=>(Rp c).rep j w r.1 x) css l)(s:∀b,j b->G b):k9 (Rp c) j w u l:=by
 have t:=n.length;rcases h with⟨o,F⟩|⟨a,e,o,J,p,q⟩;.subst F;exact .inl ⟨o,List.length_eq_zero_iff.1 t.symm⟩
 .refine .inr ⟨a,e,by grind,by omega,p,λi x A=>?_⟩;let⟨r,f,k⟩:=n.getR A;let⟨I,H,C,B,D⟩:=q i r f;subst H;exact⟨r.1,k,C,λh=>B (s _ h),D⟩
def b6w(j:UOK U){G:Nat->Prop}{w:World}{c:U.C}{x:U.T c}{cs:O A5}(h:(Rp c).rep G w cs x):e8 Rp G w (inj c x) cs:=by unfold inj;cases k:U.ag c with|true=>exact h|false=>obtain⟨n,f,rfl,i⟩:=a91.1 h;have e:=j.lay c x;rw[j.sc c k]at e;cases l:U.flds c x with|nil=>simp_all|cons a r=>rw[l]at i e;cases r with|cons _ _=>simp_all|nil=>cases f with|nil=>exact i.elim|cons s f=>cases f with|nil=>simpa using i.1|cons _ _=>exact i.2.elim
def a9m{e n:Nat}(h:e54 P e n=true):(P.info? e).map (·.size)=some n:=by unfold e54 at h;split at h;all_goals simp_all
def b1m{t:TypeId}{c:U.C}(h:b2o P t c=true):∃e,P.underlying t=some (.slice e)/\e54 P e (U.n c)=true/\g6u P e (U.ag c)=true/\0<U.n c:=by grind[b2o]
def c9a(C:UOK U)(h:Rel E Z π σ ρ w){t:TypeId}{c:U.C}{l:O (U.T c)}{n:Int}(u:k9 (Rp c) (cx Z π σ w).G w (ev ρ x) l)(A:ev ρ y=.int .i64 n)(D:b2o P t c=true)(f:(Q.opt (c7 l n) λz=>(Q.done (.rp (inj c z)) []:U.Q)).Ev σ m0 m v ws):a48 P E σ ρ w ⟨d,.indexAddr t x y,ty,ps,af,g⟩ v ws:=by
 let⟨e,j,k,_,_⟩:=b1m D;obtain⟨J,o,F,rfl,rfl⟩:=f;let⟨I,r,p,q,s,B,H,K,i⟩:=u.get o;refine g8 h (a9v q A (c4r j (a9m k) s)) ⟨_,p,rfl,?_,?_,i,b6w C B⟩;.rw[a2h];exact H
 .rw[a2h];omega
def c26{t:TypeId}{c:U.C}(h:d14 P t c=true):U.isA c=true/\∃m e,P.underlying t=some (.array m e)/\m=U.an c/\e54 P e (U.n (U.ae c))=true:=by
 unfold d14 at h;split at h;case h_2=>grind
 rename_i m e f;simp only[qB]at h;exact⟨h.1.1,m,e,f,qC h.1.2,h.2⟩
def d11(R:UOK U)(h:Rel E Z π σ ρ w){t:TypeId}(F:AVR (cx Z π σ w) a (ev ρ x))(W:AVR (cx Z π σ w) b (ev ρ y))(f:(c68 P t a b).Ev σ m0 m v ws):a48 P E σ ρ w ⟨d,.indexAddr t x y,ty,ps,af,g⟩ v ws:=by
 unfold c68 at f;split at f;case h_2=>exact f.elim
 rename_i n;split at f
 .split at f;.rename_i I;exact c9a R h F W I f
  .exact f.elim
 .rename_i S;simp [Q.Ev]at f;have H:=h.mem S;split at f
  .rename_i e0 c l j;rw[j]at H;split at f
   .rename_i I;let⟨e,p,o,_,_⟩:=b1m I;obtain⟨zv,A,K,rfl,rfl⟩:=f;let⟨css,hO,hr⟩:=H;let⟨r,J,hrep⟩:=c45 hr A;let⟨ad,cap,C,hi,G⟩:=Own.elem hO J;refine g8 h (a9v (F.2.1.trans C) W (c4r p (a9m o) hi)) ⟨F.1,ad,?_,trivial,?_⟩;.show c5g (π S)=_;rw[C];rfl
    .simp[d2l,b3g]
   .exact f.elim
  .rename_i c l j;rw[j]at H;split at f;.rename_i I;refine c9a R h ?_ W I f;rw[F.2.1];exact H
   .exact f.elim
  .rename_i t0 D x j;rw[j]at H;split at f;case h_2=>exact f.elim
   rename_i s;obtain⟨zv,A,K,rfl,rfl⟩:=f;unfold d14 at s;split at s;case h_2=>grind
   rename_i m e p;simp only[qB]at s;let⟨⟨Y,B⟩,o⟩:=s;have B:=qC B;let⟨blk,u,C,hM,ha⟩:=H;let⟨h0,V,h2⟩:=b8d A;rw[(R.arr D x Y).2,<-B]at V;refine g8 h (a9v (F.2.1.trans C) W (d4k p (a9m o) ⟨h0,V⟩)) ⟨F.1,⟨blk,0,none⟩,?_,trivial,?_⟩;.show c5g (π S)=_;rw[C];rfl
   .simp[d2l,b3g]
  .exact f.elim
 .rename_i S c N k;simp [Q.Ev]at f;have H:=h.mem S;split at f;case h_2=>exact f.elim
  rename_i e0 c' l j;rw[j]at H;split at f;case h_2=>exact f.elim
  rename_i I;simp [qB]at I;have hcc:=c0a I.2;subst hcc;let⟨e,p,o,_,_⟩:=b1m I.1;obtain⟨zv,A,K,rfl,rfl⟩:=f;let⟨css,hO,hr⟩:=H;let⟨r,J⟩:∃r,c72 css N n=some r:=by
   unfold c72 at A⊢;split at A;.rename_i h0;let⟨r,J,_⟩:=c45 hr A;simp_all
   simp_all
  have hV:=F.2;let⟨ad,cap,C,hi,_⟩:=d0z.getF (hn:=λr=>r.2.1) hV hO J;let⟨a1,L,c1,a2,c2,T,hlo,hL,hu,hp⟩:=hV;let⟨b0,hb0,hb2⟩:=hp (by omega);have X:ad=b0.add (N.toNat*U.n c'):=by simp_all
  refine g8 h (a9v C W (c4r p (a9m o) hi)) ⟨F.1,b0,?_,trivial,?_⟩;.show c5g (π S)=_;have T:π S=_:=T;rw[T,hb0];rfl
  .have e1:d2l c' [.i (N+n)]=N.toNat*U.n c'+n.toNat*U.n c':=by
    show(N+n).toNat*U.n c'+0=_;have e2:(N+n).toNat=N.toNat+n.toNat:=by omega
    rw[e2,Nat.add_mul,Nat.add_zero]
   rw[X,Deep.add_add,e1]
 .rename_i D xv;split at f;case h_2=>exact f.elim
  rename_i s;obtain⟨zv,A,K,rfl,rfl⟩:=f;let⟨Y,m,e,p,B,o⟩:=c26 s;let⟨ad,cs,C,hblk,hg,G,hr⟩:=F;let⟨h0,V,h2⟩:=b8d A;rw[(R.arr D xv Y).2,<-B]at V;let⟨_,M,_⟩:=c3z (inj (U.ae D)) A;rw[<-(R.arr D xv Y).1]at M;let⟨g1,g2⟩:=c4d R hr M;have ho:off D n.toNat=n.toNat*U.n (U.ae D):=g36 R Y xv (by omega);refine g8 h (a9v C W (d4k p (a9m o) ⟨h0,V⟩)) ⟨_,_,rfl,?_,?_,CA.sub G (off D n.toNat) (asz (inj (U.ae D) zv))|>λq=>?_,g1⟩;.rw[a2h];omega
  .rw[a2h];omega
  simp_all
 .split at f;case h_2=>exact f.elim
  rename_i D G;split at f;case h_2=>exact f.elim
  rename_i s;obtain⟨zv,A,K,rfl,rfl⟩:=f;let⟨Y,m,e,p,B,o⟩:=c26 s;let⟨hu,ad,X,hokp,C⟩:=F;unfold d0n at A;split at A;case isFalse=>grind
  rename_i hin;let⟨V,h2⟩:=f5b (n:=n) G;refine g8 h (a9v C W (d4k p (a9m o) (by omega))) ⟨hu,ad,X,h2 hokp ⟨hin.1,hin.2,trivial⟩,?_⟩;rw[V,Addr.add_add];simp[b3g]
 .exact f.elim
def f7h(h:Rel E Z π σ ρ w)(j:AVR (cx Z π σ w) a (ev ρ x))(c:(h3c a:U.Q).Ev σ m0 m v ws):a48 P E σ ρ w ⟨d,.nilCheck x,ty,ps,af,g⟩ v ws:=by
 unfold h3c at c;split at c
 .rename_i p;simp [Q.Ev]at c;have o:=h.mem p;split at c;.rename_i t B f;rw[f]at o;obtain⟨i,rfl,rfl⟩:=c;let⟨s,u,e,_,_⟩:=o;exact g8 h (c5q (j.2.1.trans e)) ⟨j.1,e.symm,rfl⟩
  .exact c.elim
 .obtain⟨i,rfl,rfl⟩:=c;let⟨k,q,e,r⟩:=j;exact g8 h (c5q e) ⟨k,q,rfl,r⟩
 .obtain⟨i,rfl,rfl⟩:=c;let⟨A,k,l,n,e⟩:=j;exact g8 h (c5q e) ⟨A,k,l,n,rfl⟩
 .exact c.elim
def e2e(h:Rel E Z π σ ρ w){id:Nat}{c:U.C}{l:O (U.T c)}(i:(∃e,σ.mem id=.sl e c l)\/σ.mem id=.fz c l):∃ad f,π id=.slice ad l.length f:=by
 have j:=h.mem id;rcases i with⟨e,i⟩|i;.rw[i]at j;let⟨p,o,n⟩:=j;let⟨ad,f,k,_⟩:=o.shape;exact⟨ad,f,by rw[k,n.length]⟩
 .rw[i]at j;let⟨ad,f,k,_⟩:=k9.shape j;simp_all
def e7v{t:TypeId}(h:g66 P t=true):∃e,P.underlying t=some (.slice e):=by grind[g66]
def f7e(h:Rel E Z π σ ρ w){t:TypeId}(s:AVR (cx Z π σ w) a (ev ρ x))(f:(h3u P t a).Ev σ m0 m v ws):a48 P E σ ρ w ⟨d,.call ⟨.builtin .len,#[x],#[t]⟩,ty,ps,af,g⟩ v ws:=by
 have p:∀(r:A3 _)(n i:Nat),g66 P t=true->ev ρ x=.slice r n i->a48 P E σ ρ w ⟨d,.call ⟨.builtin .len,#[x],#[t]⟩,ty,ps,af,g⟩ (.int .i64 (n)) []:=by intro r n i o q;let⟨e,A⟩:=e7v o;refine g8 h (f6w q ?_) rfl;simp[Builtin.len_,run_underlying A,goInt]
 unfold h3u at f;split at f
 .split at f;.obtain⟨j,rfl,rfl⟩:=f;let⟨r,i,q,_⟩:=k9.shape s;grind
  .exact f.elim
 .split at f;.rename_i o;obtain⟨j,rfl,rfl⟩:=f;exact p _ 0 _ o s
  .exact f.elim
 .split at f
  .rename_i o;obtain⟨j,rfl,rfl⟩:=f;unfold f5z at o;split at o;.rename_i u;refine g8 h (f6w s ?_) rfl;simp[Builtin.len_,run_underlying u,goInt]
   simp_all
  .exact f.elim
 .split at f;.obtain⟨j,rfl,rfl⟩:=f;let⟨r,i,q⟩:=d0z.shape s.2;simp_all
  .exact f.elim
 .split at f
  .rename_i o;simp [Q.Ev]at f;split at f;.rename_i e c l k;obtain⟨j,rfl,rfl⟩:=f;let⟨r,i,q⟩:=e2e h (.inl ⟨e,k⟩);exact p _ _ _ o (s.2.1.trans q)
   .rename_i c l k;obtain⟨j,rfl,rfl⟩:=f;let⟨r,i,q⟩:=e2e h (.inr k);exact p _ _ _ o (s.2.1.trans q)
   .exact f.elim
  .exact f.elim
 .exact f.elim
def e9w(h:Rel E Z π σ ρ w){mx:Bool}{ts:Array TypeId}(i:AVR (cx Z π σ w) a (ev ρ x))(f:AVR (cx Z π σ w) b (ev ρ y))(c:(mmQ mx a b:U.Q).Ev σ m0 m v ws):a48 P E σ ρ w ⟨d,.call ⟨.builtin (match mx with|true=>.max|false=>.min),#[x,y],ts⟩,ty,ps,af,g⟩ v ws:=by
 unfold mmQ at c;split at c
 .cases mx;.obtain⟨e,rfl,rfl⟩:=c;exact g8 h (g9u i f) rfl
  .obtain⟨e,rfl,rfl⟩:=c;exact g8 h (h0g i f) rfl
 .exact c.elim
def FZ(σ:U.St)(h:O (Nat×U.MC)):Prop:=∀f m,(f,m)∈h->∃e c l,σ.mem f=.sl e c l/\m=.fz c l
def Zf(Z:Nat->Prop)(π:Nat->A5)(σ:U.St)(e:O (Nat×U.MC)):Nat->Prop:=λb=>Z b\/∃c m,lk c e=some m/\MB (σ.mem c) (π c) b
def c0x{c:U.C}{l:O (U.T c)}{u:A5}{e:TypeId}{X:Cx}{Z':Nat->Prop}(h:MR X (.sl e c l) u)(j:∀b,X.Z b->Z' b)(s:∀b,u.ownBlock=some b->Z' b):k9 (Rp c) (λb=>¬Z' b) X.w u l:=by let⟨q,k,p⟩:=h;exact f8j (k.rep λb f i=>i (s b f)) (p.mono λr x n=>(Rp c).weaken n λb _ o i=>o (j b i)) λb h=>h
def e6i{f:O (Nat×U.MC)}(i:FZ σ f){id:Nat}{m:U.MC}(h:lk id f=some m):∃e c l,σ.mem id=.sl e c l/\m=.fz c l:=i id m (b1x h)
def a95{u:A5}{b:Nat}{ad:A3 Addr}{n c:Nat}(e:u=.slice ad n c):u.ownBlock=some b↔hdV u=some b:=by cases ad<;>simp_all[Value.ownBlock,hdV]
def Rel.freeze(h:Rel E Z π σ ρ w){p:O (Nat×U.MC)}(k:FZ σ p):Rel E (Zf Z π σ p) π (σ.app none .unk p) ρ w:=by
 refine h.next (v:=undef) ((Ext.refl _ w)) (λb f=>.inl f) (λb f=>?_) (λ_ _=>rfl) (λj m i=>?_) (λj m i=>?_) (λj m b i f=>?_) (λj s m C b _ i t f=>?_) trivial;.rcases f with f|f;all_goals grind
 .obtain⟨e,c,l,_,rfl⟩:=e6i k i;grind
 .obtain⟨e,c,l,n,rfl⟩:=e6i k i;have o:=h.mem j;rw[n]at o;refine c0x (X:=cx Z π σ w) o (λb f=>.inl f) λb f=>.inr ⟨j,_,i,?_⟩;rw[n];let⟨A,r,_⟩:=o;let⟨B,q,u,_⟩:=r.shape;exact(a95 u).1 f
 .obtain⟨e,c,l,n,rfl⟩:=e6i k i;exact f.elim
 .obtain⟨e,c,l,n,rfl⟩:=e6i k i;exact f.elim
def c8m(h:Rel E Z π σ ρ w){f:O (Nat×U.MC)}(n:FZ σ f):(cx Z π σ w).Le (cx (Zf Z π σ f) π (σ.app none .unk f) w):=by refine⟨λb o=>.inl o,Ext.refl _ _,λi k=>⟨?_,rfl⟩⟩;show(σ.app _ _ f).mem i≠.never;rw[o8];cases j:lk i f with|none=>exact k|some m=>obtain⟨e,c,l,_,rfl⟩:=e6i n j;grind
def c8w(i:UOK U){X:Cx}{a:U.AV}{u:A5}(h:a1p X a u):a1p X (d4a a) u:=by
 cases a<;>try exact h
 unfold d4a;dsimp only;split;.rename_i x j;let⟨c,e,_,_,f⟩:=h;exact⟨c.flatten,e,e03 i j f⟩
 omega
def f4y(c:UOK U){X:Cx}{a:U.AV}{u:A5}(h:AVR X a u):AVR X (d4a a) u:=by
 cases a<;>try exact h
 exact AVR.of1 (c8w c h)
def e4i{a:U.AV}(h:a03 a=true):d4a a=a:=by cases a<;>first|rfl|cases h
def c6x(L:UOK U)(h:Rel E Z π σ ρ w):∀{as:O U.AV}{us:O A5}{k:O U.AV->O (Nat×U.MC)->U.Q}{m0 m:Nat}{v:U.AV}{ws:O (Nat×U.MC)},y7 (AVR (cx Z π σ w)) as us->(d93 as k).Ev σ m0 m v ws->∃j o A,(k j o).Ev σ A m v ws/\(as.all a03=true->j.all a03=true)/\FZ σ o/\(∀q∈o,(.ref q.1:U.AV)∈as)/\∀f,FZ σ f->(∀q∈o,q∈f/\∃m,lk q.1 f=some m)->y7 (AVR (cx (Zf Z π σ f) π (σ.app none .unk f) w)) j us
 |[],[],k,m0,m,v,ws,_,i=>⟨[],[],m0,i,λ_=>rfl,(λ_ _ s=>by grind),(by grind),λ_ _ _=>trivial⟩|a::as,u::us,k,m0,m,v,ws,C,i=>by
   have K:(d93 as λas ws=>k (d4a a::as) ws).Ev σ m0 m v ws->∃j o A,(k j o).Ev σ A m v ws/\((a::as).all a03=true->j.all a03=true)/\FZ σ o/\(∀q∈o,(.ref q.1)∈(a::as))/\∀f,FZ σ f->(∀q∈o,q∈f/\∃m,lk q.1 f=some m)->y7 (AVR (cx (Zf Z π σ f) π (σ.app none .unk f) w)) j (u::us):=by intro i;let⟨j,o,A,G,I,H,r,D⟩:=c6x L h C.2 i;refine⟨d4a a::j,o,A,G,λt=>?_,H,λq p=>qJ _ (r q p),λf B p=>⟨f4y L (C.1.le (c8m h B)),D f B p⟩⟩;simp only[all_cons,qB]at t⊢;exact⟨by rw[e4i t.1];grind,I t.2⟩
   cases a<;>try exact K i
   rename_i T;have i:(match σ.mem T with|.sl _ c l=>d93 as _|.fz c l=>d93 as _|_=>.fail).Ev σ _ m v ws:=i;have J:=h.mem T;split at i
   .rename_i e c l n;let⟨j,o,A,G,I,H,r,D⟩:=c6x L h C.2 i;refine⟨_,_,A,G,λt=>?_,λN M s=>?_,λq p=>?_,λf B p=>⟨?_,D f B λq Q=>p q (qJ _ Q)⟩⟩;.simp only[all_cons,qB]at t⊢;exact⟨rfl,I t.2⟩
    .rcases qO.1 s with s|s;.cases s;exact⟨e,c,l,n,rfl⟩
     .exact H N M s
    .rcases qO.1 p with R|R;.rw[R];exact qI
     .exact qJ _ (r q R)
    .rw[n]at J;let⟨M,hl⟩:=(p _ (qI)).2;rw[C.1.2.1];refine c0x (X:=cx Z π σ w) J (λb S=>.inl S) λb S=>.inr ⟨T,M,hl,?_⟩;rw[n];let⟨W,hO,_⟩:=J;let⟨ad,V,Y,_⟩:=hO.shape;exact(a95 Y).1 S
   .rename_i c l n;let⟨j,o,A,G,I,H,r,D⟩:=c6x L h C.2 i;refine⟨_,_,A,G,λt=>?_,H,λq p=>qJ _ (r q p),λf B p=>⟨?_,D f B p⟩⟩;.simp only[all_cons,qB]at t⊢;exact⟨rfl,I t.2⟩
    .rw[n]at J;rw[C.1.2.1];exact AVR.le (c8m h B) J
   .exact i.elim|[],_::_,_,_,_,_,_,s,_=>s.elim|_::_,[],_,_,_,_,_,s,_=>s.elim
def b1s(c:b3a a=true):c1d a=true:=by cases a<;>first|rfl|cases c
def b99{as:O U.AV}(h:as.all b3a=true):as.all c1d=true:=by simp_all[qX,Iff.mpr,b1s,Iff.mp]
def f4w(h:Rel E Z π σ ρ w){c:O (Nat×U.MC)}(k:FZ σ c){o:Oper}{ws:O (Nat×U.MC)}(j:a48 P E (σ.app none .unk c) ρ w o a ws):a48 P E σ ρ w o a (ws++c):=by
 refine j.mono λu n⟨i,f,l⟩=>⟨i,f,?_⟩;have e:(σ.app none .unk c).app o.dst a ws=σ.app o.dst a (ws++c):=by cases o.dst<;>simp[St.app,St.put,qQ]
 grind
def e64{c:O (Nat×U.MC)}{q:Nat×U.MC}(f:q∈c):∃m,lk q.1 c=some m:=by induction c with|nil=>grind|cons r c i=>show∃m,(bif Nat.beq r.1 q.1then some r.2else lk q.1 c)=some m;cases h:Nat.beq r.1 q.1with|true=>simp_all|false=>rcases qO.1 f with e|e;all_goals simp_all
def g7k(D:UOK U)(h:Rel E Z π σ ρ w){c:U.C}{fs:O U.AV}{css:O (O A5)}{k:O U.AV->O (Nat×U.MC)->U.Q}(j:fs.all a03=true)(H:y7 (λa s=>∃u:A5,u.cells.toList=s/\b79 (cx Z π σ w) a u) fs css)(l:(d93 fs k).Ev σ m0 m v ws):∃e i t,(k e i).Ev σ t m v ws/\FZ σ i/\∀x:U.T c,U.mkv c e=some x->(Rp c).rep (cx (Zf Z π σ i) π (σ.app none .unk i) w).G w css.flatten x:=by
 have A:∀(fs:O U.AV)(css:O _),fs.all a03=true->y7 (λa s=>∃u:A5,u.cells.toList=s/\b79 (cx Z π σ w) a u) fs css->∃f:O A5,f.map (λu=>u.cells.toList)=css/\y7 (AVR (cx Z π σ w)) fs f:=by intro fs;induction fs with
  |nil=>intro css _ h;cases css with|nil=>exact⟨[],rfl,trivial⟩|cons _ _=>exact h.elim
  |cons a fs B=>intro css j h;cases css with|nil=>exact h.elim|cons s css=>let⟨u,Q,I⟩:=h.1;simp only[all_cons,qB]at j;let⟨f,R,K⟩:=B css j.2 h.2;exact⟨u::f,by grind,AVR.of1 (.of0 I),K⟩
 let⟨f,o,n⟩:=A fs css j H;let⟨e,i,t,l,J,F,_,M⟩:=c6x D h n l;have r:∀(e:O U.AV)(f:O A5),e.all a03=true->y7 (AVR (cx (Zf Z π σ i) π (σ.app none .unk i) w)) e f->y7 (λa s=>∃u:A5,u.cells.toList=s/\a1p (cx (Zf Z π σ i) π (σ.app none .unk i) w) a u) e (f.map λu=>u.cells.toList):=by intro e;induction e with
  |nil=>intro f _ h;cases f with|nil=>trivial|cons _ _=>exact h.elim
  |cons a N B=>intro f j h;cases f with|nil=>exact h.elim|cons u f=>simp only[all_cons,qB]at j;exact⟨⟨u,rfl,a8m (by cases a<;>first|rfl|cases j.1) h.1⟩,B f j.2 h.2⟩
 refine⟨e,i,t,l,F,λx L=>?_⟩;have p:=d1x D L (r e f (J j) (M i F λq C=>⟨C,e64 C⟩));rw[o]at p;exact p
def f0k(k:UOK U)(h:Rel E Z π σ ρ w){t:TypeId}(q:AVR (cx Z π σ w) a (ev ρ x))(e:(g8f P t a).Ev σ m0 m v ws):a48 P E σ ρ w ⟨d,.load t x,ty,ps,af,g⟩ v ws:=by
 cases a<;>try exact e.elim
 case ref l=>
  have L:=h.mem l;have e:(g1o (σ.mem l) [] λb=>match b with
   |.st c N=>d93 N _
   |b=>match b33 P t b with|true=>Q.done b []|false=>Q.fail).Ev σ _ m v ws:=e;cases n:σ.mem l<;>rw[n]at e L<;>try exact e.elim
  case box t' F=>
   simp [g1o,nav]at e;let⟨Y,u,j,M,J⟩:=L;have A:(match b33 P t F with|true=>Q.done F []|false=>(Q.fail)).Ev σ (m0|||2^(2*l+1)) m v ws->a48 P E σ ρ w ⟨d,.load t x,ty,ps,af,g⟩ v ws:=by
    intro e;split at e;.rename_i f;obtain⟨i,rfl,rfl⟩:=e;exact c1z k h (q.2.1.trans j) f ⟨u,J,M.ca⟩
    .exact e.elim
   cases F<;>try simp_all
   rename_i c N;let⟨H,s,K,S,o⟩:=J;let⟨T,fz,m1,e,f,hA⟩:=g7k (c:=c) k h S o e;split at e;case h_2=>exact e.elim
   rename_i xv X;split at e;case h_2=>exact e.elim
   rename_i r;let⟨i,C,D⟩:=e;rw[C,D];exact c1z k (h.freeze f) (q.2.1.trans j) r ⟨.agg _,⟨H.flatten,rfl,(hA xv X)⟩,by rw[<-s];exact (M.ca)⟩
 case fref l c p=>have e:(match c18 c _ p with|true=>g1o _ p _|false=>Q.fail).Ev σ _ m v ws:=e;cases G:c18 c _ p with|false=>rw[G]at e;exact e.elim|true=>rw[G]at e;let⟨s,R,I,B,j⟩:=q;let⟨b,e,W⟩:=e2m k h (.inr G) B e;cases f:b33 P t b with|false=>rw[f]at e;exact e.elim|true=>rw[f]at e;obtain⟨i,rfl,rfl⟩:=e;exact c1z k h j f (W R I)
 case rp b=>have e:(match b33 P t b with|true=>Q.done b []|false=>Q.fail).Ev σ m0 m v ws:=e;cases f:b33 P t b with|false=>rw[f]at e;exact e.elim|true=>rw[f]at e;obtain⟨i,rfl,rfl⟩:=e;let⟨R,cs,j,hb,hg,V,o⟩:=q;let⟨u,s,o⟩:=a18 o;exact c1z k h j f ⟨u,o,by simp_all⟩
def e6h(s:UOK U)(h:Rel E Z π σ ρ w){t:TypeId}(n:AVR (cx Z π σ w) a (ev ρ x))(e:(e9z P t a).Ev σ m0 m v ws):a48 P E σ ρ w ⟨d,.load t x,ty,ps,af,g⟩ v ws:=by
 unfold e9z at e;split at e;case h_2=>exact e.elim
 rename_i j;have i:=h.mem j;have e:(match σ.mem j with|.box _ (.st c r)=>(match b33 P t _ with|true=>Q.done _ []|false=>.fail)|_=>(.fail)).Ev σ _ m v ws:=e;split at e
 .rename_i B c r f;rw[f]at i;let⟨o,u,A,l,q⟩:=i;split at e;.rename_i p;obtain⟨k,rfl,rfl⟩:=e;exact c1z s h (n.2.1.trans A) p ⟨u,q,l.ca⟩
  .exact e.elim
 .exact e.elim
end
section
variable {P:Program} {U:Uni} {E:Env} {Z:Nat -> Prop} {π:Nat -> A5} {σ:U.St} {ρ:Nat -> A5} {w:World}
variable {d:A3 Tmp} {ty:TypeId} {ps:String} {af:Array Edge} {g:A3 (Nat×Bool)} {x y z:Operand} {m0 m:Nat} {a b v:U.AV} {ws:O (Nat×U.MC)} {fr:Nat}
def c0j(π:Nat->A5)(fr:Nat)(v:A5):Nat->A5:=λc=>if c=fr then v else π c
def Rel.new(h:Rel E Z π σ ρ w)(hn:σ.mem fr=.never){w':World}{mc:U.MC}{dead:O Nat}{v':A5}(N:mc≠.never)(A:Ext (λb=>∃id∈dead,MB (σ.mem id) (π id) b) w w')(I:∀X':Cx,(cx Z π σ w).Le X'->X'.w=w'->X'.Z=Z->MR X' mc v')(k:∀b,MB mc v' b->b<w'.heap.size/\(w.heap.size<=b\/∃id∈dead,MB (σ.mem id) (π id) b))(Q:v'.oneCell'=true){d:A3 Tmp}:Rel E Z (c0j π fr v') (σ.app d (.ref fr) ((fr,mc)::dead.map λid=>(id,.dead))) (b20 ρ d v') w':=by
 have c:∀id m,lk id ((fr,mc)::dead.map λid=>(id,(.dead)))=some m->(id=fr/\m=mc)\/(id≠fr/\id∈dead/\m=.dead):=by intro id m f;have f:(bif Nat.beq fr id then some mc else lk id _)=some m:=f;cases s:Nat.beq fr id with|true=>simp_all|false=>rw[s]at f;let⟨i,H,S⟩:=List.mem_map.1 (b1x f);cases S;exact .inr ⟨λe=>Nat.ne_of_beq_eq_false s e.symm,H,rfl⟩
 have l:∀id,id∈dead->∃m,lk id ((fr,mc)::dead.map λid=>(id,(.dead)))=some m:=by intro id p;show∃m,(bif Nat.beq fr id then some mc else lk id _)=some m;cases Nat.beq fr id with|true=>grind|false=>induction dead with|nil=>grind|cons i r R=>show∃m,(bif Nat.beq i id then some _ else lk id _)=some m;cases s:Nat.beq i id with|true=>exact⟨_,rfl⟩|false=>
        rcases qO.1 p with e|e;.subst e;exact absurd rfl (Nat.ne_of_beq_eq_false s)
        .have q:lk id (r.map λid=>(id,(.dead:U.MC)))≠none:=by clear R c k A;induction r with|nil=>grind|cons j r M=>show(bif Nat.beq j id then some _ else lk id _)≠none;cases s:Nat.beq j id with|true=>simp_all|false=>
              rcases qO.1 e with e|e;.simp_all
              simp_all
         cases T:lk id _ with|none=>exact absurd T q|some m=>exact⟨m,rfl⟩
 have K:(cx Z π σ w).Le (cx Z (c0j π fr v') (σ.app d (.ref fr) ((fr,mc)::dead.map λid=>(id,.dead))) w'):=by
  refine⟨λ_ k=>k,A.mono λb⟨id,_,k⟩t=>(h.own id b k).1 t,λid u=>⟨?_,?_⟩⟩;.show(σ.app d _ _).mem id≠.never;rw[o8];cases f:lk id _ with|none=>exact u|some m=>
     rcases c id m f with⟨_,rfl⟩|⟨_,_,rfl⟩;.omega
     grind
  .show(if id=fr then v' else π id)=π id;rw[if_neg];intro e;subst e;exact u hn
 refine h.next (A.mono λb⟨id,p,k⟩=>?_) (λ_ k=>k) (λ_ k=>.inl k) (λid u=>?_) (λid m f=>?_) (λid m f=>?_) (λid m b f o=>?_) (λid D m G b L f C B J=>?_) ?_;.let⟨m,I⟩:=l id p;exact⟨id,m,I,k⟩
 .show(if id=fr then v' else π id)=π id;rw[if_neg];intro e;subst e;exact u hn
 .rcases c id m f with⟨_,rfl⟩|⟨_,_,rfl⟩;.omega
  .intro h;cases h
 .rcases c id m f with⟨rfl,rfl⟩|⟨_,_,rfl⟩;.rw[show c0j π id v' id=v' by simp[c0j]];exact I _ K rfl rfl
  .trivial
 .rcases c id m f with⟨rfl,rfl⟩|⟨_,_,rfl⟩
  .rw[show c0j π id v' id=v' by simp[c0j]]at o;let⟨V,n⟩:=k b o;refine⟨λt=>?_,V,?_⟩
   .rcases n with n|⟨i,_,n⟩;.have:=h.zlt b t;omega
    .exact(h.own i b n).1 t
   .rcases n with n|⟨i,H,n⟩;.omega
    .let⟨G,F⟩:=l i H;exact .inr ⟨i,G,F,n⟩
  .exact o.elim
 .rcases c id m f with⟨rfl,rfl⟩|⟨_,_,rfl⟩
  .rcases c D G C with⟨rfl,rfl⟩|⟨_,_,rfl⟩;.omega
   .exact J.elim
  .exact B.elim
 .refine⟨?_,?_,Q⟩
  .show(σ.app d _ _).mem fr≠.never;rw[o8];have:lk fr ((fr,mc)::dead.map λid=>(id,(.dead)))=some mc:=by show(bif Nat.beq fr fr then some mc else _)=some mc;rw[show Nat.beq fr fr=true from Nat.beq_refl fr];rfl
   rw[this];omega
  .show v'=c0j π fr v' fr;simp[c0j]
def b1u(h:Rel E Z π σ ρ w){o:Oper}{obj:Obj}{mc:U.MC}{v':A5}(hn:σ.mem fr=.never)(c:(execOp (ev ρ) o).run P w=.ok (.value v') (w.alloc obj))(f:mc≠.never)(n:hdV v'=some w.heap.size)(j:v'.oneCell'=true)(e:∀b,MB mc v' b->hdV v'=some b)(l:∀X':Cx,(cx Z π σ w).Le X'->X'.w=w.alloc obj->X'.Z=Z->MR X' mc v'):a48 P E σ ρ w o (.ref fr) [(fr,mc)]:=by unfold a48 a0k;rw[c];refine⟨Z,c0j π fr v',?_⟩;refine h.new (dead:=[]) hn f ((Ext.alloc _ w obj).mono λ_ i=>i) l (λb k=>?_) j;have:=e b k;simp_all
def d77:∀(fs:O Field)(as:O U.AV)(k:Nat),(b88 P k fs as).1.map a07=as.map a07/\(as.all a03=true->(b88 P k fs as).1.all a03=true)/\(∀q∈(b88 P k fs as).2,k<=q.1/\∃e c,q.2=(.sl e c []:U.MC))/\∀(X X':Cx),X.Le X'->(∀q∈(b88 P k fs as).2,X'.us q.1/\X'.π q.1=.slice none 0 0)->∀css,y7 (λa s=>∃u:A5,u.cells.toList=s/\b79 X a u) as css->y7 (λa s=>∃u:A5,u.cells.toList=s/\b79 X' a u) (b88 P k fs as).1 css:=by
 have j:∀(as:O U.AV)(k:Nat)(fs:O _),b88 P k fs as=(as,[])->(b88 P k fs as).1.map a07=as.map a07/\(as.all a03=true->(b88 P k fs as).1.all a03=true)/\(∀q∈(b88 P k fs as).2,k<=q.1/\∃e c,q.2=(.sl e c []))/\∀(X X':Cx),X.Le X'->(∀q∈(b88 P k fs as).2,X'.us q.1/\X'.π q.1=.slice none 0 0)->∀css,y7 (λa s=>∃u:A5,u.cells.toList=s/\b79 X a u) as css->y7 (λa s=>∃u:A5,u.cells.toList=s/\b79 X' a u) (b88 P k fs as).1 css:=by intro as k fs e;rw[e];exact⟨rfl,λh=>h,(λq n=>by grind),λX X' p _ css h=>h.mono λ_ _⟨u,r,i⟩=>⟨u,r,i.le p⟩⟩
 intro fs;induction fs with|nil=>intro as k;exact j as k [] (by cases as<;>rfl)|cons f fs K=>intro as k;cases as with|nil=>exact j [] k _ rfl|cons a as=>
     have l:b88 P k (f::fs) (a::as)=(a::(b88 P k fs as).1,(b88 P k fs as).2)->(b88 P k (f::fs) (a::as)).1.map a07=(a::as).map a07/\((a::as).all a03=true->(b88 P k (f::fs) (a::as)).1.all a03=true)/\(∀q∈(b88 P k (f::fs) (a::as)).2,k<=q.1/\∃e c,q.2=(.sl e c []))/\∀(X X':Cx),X.Le X'->(∀q∈(b88 P k (f::fs) (a::as)).2,X'.us q.1/\X'.π q.1=.slice none 0 0)->∀css,y7 (λa s=>∃u:A5,u.cells.toList=s/\b79 X a u) (a::as) css->y7 (λa s=>∃u:A5,u.cells.toList=s/\b79 X' a u) (b88 P k (f::fs) (a::as)).1 css:=by
      intro e;rw[e];let⟨B,I,D,A⟩:=K as k;refine⟨by simp[B],λo=>?_,D,λX X' p n css i=>?_⟩;.simp only[all_cons,qB]at o⊢;exact⟨o.1,I o.2⟩
      .cases css with|nil=>exact i.elim|cons s css=>let⟨u,r,t⟩:=i.1;exact⟨⟨u,r,t.le p⟩,A X X' p n css i.2⟩
     cases a<;>try exact l rfl
     have H:b88 P k (f::fs) (.nils::as)=(.nils::(b88 P k fs as).1,(b88 P k fs as).2)\/∃e c,b88 P k (f::fs) ((.nils)::as)=(.ref k::(b88 P (k+1) fs as).1,(k,.sl e c [])::(b88 P (k+1) fs as).2):=by
      simp [b88];split
      .split;.exact .inr ⟨_,_,rfl⟩
       .exact .inl rfl
      .exact .inl rfl
     rcases H with C|⟨e,c,C⟩;.exact l C
     .rw[C];let⟨B,I,D,A⟩:=K as (k+1);refine⟨by simp[B,a07],λo=>?_,λq n=>?_,λX X' p n css i=>?_⟩;.simp only[all_cons,qB]at o⊢;exact⟨rfl,I o.2⟩
      .rcases qO.1 n with G|G;.rw[G];exact⟨Nat.le_refl _,e,c,rfl⟩
       .let⟨L,F⟩:=D q G;exact⟨by omega,F⟩
      .cases css with|nil=>exact i.elim|cons s css=>let⟨u,r,t⟩:=i.1;let⟨L,F⟩:=n _ qI;exact⟨⟨u,r,L,t.trans F.symm,by rw[t];rfl⟩,A X X' p (λq J=>n q (qJ _ J)) css i.2⟩
def Rel.openB(h:Rel E Z π σ ρ w){id:Nat}{t:TypeId}{c:U.C}{as:O U.AV}{k:Nat}{fs:O Field}(S:σ.mem id=.box t (.st c as))(hn:∀q∈(b88 P k fs as).2,σ.mem q.1=.never):∃l,Rel E Z l (σ.app none .unk ((id,.box t (.st c (b88 P k fs as).1))::(b88 P k fs as).2)) ρ w:=by
 let⟨h1,h2,B,h4⟩:=d77 (P:=P) fs as k;generalize b88 P k fs as=q at hn h1 h2 B h4;let⟨p,A⟩:=q;let⟨l,J⟩:∃l:Nat->A5,l=λi=>if(lk i A).isSome=true then .slice none 0 0 else π i:=⟨_,rfl⟩;have N:∀i,b7a σ i->l i=π i:=λi M=>by rw[J];show(if _ then _ else _)=_;rw[if_neg];intro hs;let⟨m,j⟩:=Option.isSome_iff_exists.1 hs;exact M (hn _ (b1x j))
 have r:∀i m,lk i A=some m->l i=.slice _ 0 0:=λi m j=>by rw[J];show(if _ then _ else _)=_;rw[if_pos (by rw[j];rfl)]
 have s:∀i m,lk i ((id,.box t (.st c p))::A)=some m->(i=id/\m=.box t (.st c p))\/(i≠id/\lk i A=some m):=by intro i m j;have j:(bif Nat.beq id i then some _ else lk i A)=some m:=j;cases D:Nat.beq id i with|true=>rw[D]at j;cases j;exact .inl ⟨(qC D).symm,rfl⟩|false=>rw[D]at j;exact .inr ⟨λe=>Nat.ne_of_beq_eq_false D e.symm,j⟩
 have T:lk id ((id,(.box t (.st c p)))::A)=some (.box t (.st c p)):=by show(bif Nat.beq id id then some _ else lk id A)=_;rw[show Nat.beq id id=true from Nat.beq_refl id];rfl
 have C:b7a σ id:=by unfold b7a;rw[S];intro h;cases h
 have H:∀q∈A,(cx Z l (σ.app none .unk ((id,.box t (.st c p))::A)) w).us q.1/\(cx Z l (σ.app none .unk ((id,.box t (.st c p))::A)) w).π q.1=.slice none 0 0:=by
  intro q W;have:=e64 W;let⟨m,j⟩:=this;refine⟨?_,r _ m j⟩;show(σ.app _ _ _).mem q.1≠.never;rw[o8];have I:q.1≠id:=λe=>C (by rw[<-e];exact hn q W);have:lk q.1 ((id,(.box t (.st c p)))::A)=some m:=by show(bif Nat.beq id q.1then some _ else lk q.1 A)=_;cases D:Nat.beq id q.1with|true=>exact absurd (qC D).symm I|false=>exact j
  rw[this];let⟨_,e,G,n⟩:=B _ (b1x j);dsimp only at n;rw[n];intro h;cases h
 refine⟨l,h.next (v:=undef) (Ext.refl _ w) (λb o=>o) (λb o=>.inl o) N (λi m j=>?_) (λi m j=>?_) (λi m b j o=>?_) (λi Y m m' b I j Q o R=>?_) trivial⟩
 .rcases s i m j with⟨_,rfl⟩|⟨_,f⟩;.intro h;cases h
  .let⟨_,e,G,n⟩:=B _ (b1x f);dsimp only at n;rw[n];intro h;cases h
 .rcases s i m j with⟨rfl,rfl⟩|⟨_,f⟩;.have K:=h.mem i;rw[S]at K;let⟨b,u,hv,hM,L,V,hlay,hp,hr⟩:=K;refine⟨b,u,by rw[N i C];omega,hM,L,V,by rw[h1];omega,h2 hp,h4 _ _ (by refine⟨λ_ h=>h,Ext.refl _ _,λi M=>⟨?_,N i M⟩⟩;show(σ.app _ _ _).mem i≠.never;rw[o8];cases j:lk i _ with|none=>exact M|some m=>
    rcases s i m j with⟨_,rfl⟩|⟨_,f⟩;.intro h;cases h
    .let⟨_,e,G,n⟩:=B _ (b1x f);dsimp only at n;rw[n];intro h;cases h) H L hr⟩
  .let⟨_,e,G,n⟩:=B _ (b1x f);dsimp only at n;rw[n,r i m f];exact⟨[],Own.nil _ _ _ _ _,trivial⟩
 .rcases s i m j with⟨rfl,rfl⟩|⟨_,f⟩
  .rw[N i C]at o;have o:MB (σ.mem i) (π i) b:=by rw[S];exact o
   let⟨g1,g2,_⟩:=h.own i b o;exact⟨g1,g2,.inr ⟨i,_,T,o⟩⟩
  .let⟨_,e,G,n⟩:=B _ (b1x f);dsimp only at n;rw[n,r i m f]at o;cases o
 .have X:∀i m,lk i A=some m->¬MB m (l i) b:=λi m f o=>by let⟨_,e,G,n⟩:=B _ (b1x f);dsimp only at n;rw[n,r i m f]at o;cases o
  rcases s i m j with⟨e1,_⟩|⟨_,f⟩
  .rcases s Y m' Q with⟨e2,_⟩|⟨_,F⟩;.omega
   .exact X Y m' F R
  .exact X i m f o
def d4r:∀{l:O Nat}{q:U.Q}{m0 m:Nat}{v:U.AV}{ws:O (Nat×U.MC)},(g6x l q).Ev σ m0 m v ws->(∀i∈l,σ.mem i=.never)/\∃e,q.Ev σ e m v ws
 |[],q,m0,m,v,ws,h=>⟨(by grind),m0,h⟩|i::l,q,m0,m,v,ws,h=>by
   have h:(match σ.mem i with|.never=>g6x l q|_=>(.fail)).Ev σ _ m v ws:=h;split at h;.let⟨f,j⟩:=d4r h;simp_all
   .exact h.elim
def c44{o:Oper}{B:U.AV}{f:O (Nat×U.MC)}{id:Nat}{t:TypeId}(M:a48 P E σ ρ w o B f)(D:(σ.app o.dst B f).mem id=.box t a)(n:∀i,fr<i->σ.mem i=.never->lk i f=none)(h:(c78 P fr t id a B f).Ev σ m0 m v ws):a48 P E σ ρ w o v ws:=by
 unfold c78 at h;split at h;.let⟨_,rfl,rfl⟩:=h;omega
 .rename_i R F G l;obtain⟨N,T,_,rfl,rfl⟩:=d4r h;unfold g8o at l;cases a<;>try grind
  rename_i c C;dsimp only at l;split at l
  .rename_i s Q;simp [Prod.mk.injEq]at l;let⟨rfl,p⟩:=l;let⟨_,_,I,_⟩:=d77 (P:=P) s.toList C (fr+1);refine a0k.mono M λu W⟨K,J,L⟩=>?_;let⟨j,r⟩:=L.openB (P:=P) (k:=fr+1) (fs:=s.toList) D λq A=>by rw[o8];have V:=I q A;rw[p]at A;have H:=N q.1 (mem_map_of_mem A);rw[n q.1 (by omega) H];omega
   refine⟨K,j,?_⟩;rw[p]at r;have e:((σ.app o.dst v f).app none .unk ((id,.box t (.st c (b88 P (fr+1) s.toList C).1))::F::G))=σ.app o.dst v ((id,.box t (.st c (b88 P (fr+1) s.toList C).1))::((F::G)++f)):=by cases S:o.dst<;>simp[St.app,St.put]
   rw[e]at r;omega
  grind
def f0y{t:TypeId}(c:(g7b P fr t a).Ev σ m0 m v ws):σ.mem fr=.never/\∃e,(c78 P fr t fr a (.ref fr) [(fr,.box t a)]).Ev σ e m v ws:=by
 have c:(match σ.mem fr with|.never=>c78 P fr t fr a _ _|_=>(.fail)).Ev σ _ m v ws:=c;split at c;.grind
 .exact c.elim
def a5o{id i:Nat}{mc:U.MC}(h:i≠id):lk i [(id,mc)]=none:=by show(bif Nat.beq id i then some mc else none)=none;cases c:Nat.beq id i with|true=>simp_all|false=>rfl
def b6q{d:A3 Tmp}{v:U.AV}{id:Nat}{mc:U.MC}:(σ.app d v [(id,mc)]).mem id=mc:=by
 rw[o8];have:lk id [(id,mc)]=some mc:=by show(bif Nat.beq id id then some mc else none)=_;simp_all
 grind
def e2a{o:Oper}{t:TypeId}(e:a48 P E σ ρ w o (.ref fr) [(fr,.box t a)])(c:(c78 P fr t fr a (.ref fr) [(fr,.box t a)]).Ev σ m0 m v ws):a48 P E σ ρ w o v ws:=c44 e b6q (λi f _=>a5o (by omega)) c
def f7w(h:Rel E Z π σ ρ w){t:TypeId}(l:AVR (cx Z π σ w) a (ev ρ x))(c:(match b33 P t a with|true=>g7b P fr t a|false=>(.fail:U.Q)).Ev σ m0 m v ws):a48 P E σ ρ w ⟨d,.box t x,ty,ps,af,g⟩ v ws:=by
 split at c;.rename_i i;let⟨k,p,c⟩:=f0y c;unfold b33 at i;simp [qB]at i;have e:=a8m (b1s i.1.1) l;refine e2a (b1u h (obj:=.cells (ev ρ x).cells t) (v':=.pointer (some ⟨w.heap.size,0,none⟩)) k (by simp[execOp,Instr.box,newVar,newRow]) (by grind) rfl rfl (λb n=>n) ?_) c;rintro q f j o;refine⟨w.heap.size,ev ρ x,rfl,?_,e.le f⟩;rw[j];have:=Mb.alloc w t (ev ρ x).cells.toList;omega
 .exact c.elim
def d6r(j:UOK U){X:Cx}{i:TypeId->O A5->A3 U.AV}(k:∀t cs a,i t cs=some a->∃u,u.cells.toList=cs/\a1p X a u):∀(fs:O Field)(cs:O A5)(as:O U.AV),f6u P i fs cs=some as->∃css:O (O A5),css.flatten=cs/\y7 (λa s=>∃u,u.cells.toList=s/\a1p X a u) as css
 |[],[],as,h=>by cases h;exact⟨[],rfl,trivial⟩|[],_::_,as,h=>by cases h|f::fs,cs,as,h=>by
   simp [f6u]at h;split at h
   .rename_i a p;split at h;.rename_i c e;cases h;let⟨css,r,n⟩:=d6r j k fs _ c e;let⟨u,o,l⟩:=k _ _ _ p;exact⟨cs.take _::css,by simp[r],⟨u,o,c8w j l⟩,n⟩
    simp_all
   simp_all
def e5c{X:Cx}{v:A5}{a:U.AV}(h:c3p v=some a):a1p X a v/\v.cells.toList=[v]:=by unfold c3p at h;split at h<;>first|(cases h;exact⟨rfl,rfl⟩)|grind
def e4a(k:UOK U){X:Cx}{c:U.C}{as:O U.AV}{a:U.AV}(h:h1n c as=some a){css:O (O A5)}(f:y7 (λa s=>∃u:A5,u.cells.toList=s/\a1p X a u) as css):a1p X a (.agg css.flatten.toArray):=by
 unfold h1n at h;split at h
 .rename_i x j;let⟨i,l⟩:=f2j k j;split at h;.cases h;refine⟨css,rfl,l,i,?_⟩;rename_i e;clear j l e;induction as generalizing css with
   |nil=>cases css with|nil=>trivial|cons _ _=>exact f.elim
   |cons a as o=>cases css with|nil=>exact f.elim|cons s css=>simp only[all_cons,qB]at i;let⟨u,p,n⟩:=f.1;exact⟨⟨u,p,n.to0 i.1⟩,o f.2 i.2⟩
  .cases h;exact⟨css.flatten,rfl,d1x k j f⟩
 grind
def d88(j:UOK U){X:Cx}{i:TypeId->O A5->A3 U.AV}(k:∀t cs a,i t cs=some a->∃u,u.cells.toList=cs/\a1p X a u):∀(m:Nat)(e:TypeId)(cs:O A5)(as:O U.AV),f8c P i m e cs=some as->∃css:O (O A5),css.flatten=cs/\y7 (λa s=>∃u,u.cells.toList=s/\a1p X a u) as css
 |0,e,[],as,h=>by cases h;exact⟨[],rfl,trivial⟩|0,e,_::_,as,h=>by cases h|m+1,e,cs,as,h=>by
   simp [f8c]at h;split at h
   .rename_i a l;split at h;.rename_i c f;cases h;let⟨css,q,p⟩:=d88 j k m e _ c f;let⟨u,o,n⟩:=k _ _ _ l;exact⟨cs.take _::css,by simp[q],⟨u,o,c8w j n⟩,p⟩
    simp_all
   simp_all
def c13(e:UOK U){X:Cx}:∀(n:Nat)(t:TypeId)(cs:O A5)(a:U.AV),f0g P n t cs=some a->∃u,u.cells.toList=cs/\a1p X a u
 |0,_,_,_,h=>by cases h|n+1,t,cs,a,h=>by
   simp [f0g]at h;split at h
   .split at h
    .split at h
     .rename_i o c;split at h;.obtain⟨k,i,f⟩:=d6r e (λt cs a=>c13 e n t cs a) _ _ _ c;exact⟨.agg cs.toArray,by simp[Value.cells],by rw[<-i];exact e4a e h f⟩
      grind
     grind
    grind
   .split at h
    .split at h
     .rename_i o c;split at h;.rename_i q l p;cases h;obtain⟨k,i,f⟩:=d88 e (λt cs a=>c13 e n t cs a) _ _ _ _ c;exact⟨.agg _,by simp[Value.cells],cs,rfl,by rw[<-i];exact d1x e p f⟩
      grind
     grind
    grind
   .split at h;.let⟨i,f⟩:=e5c (X:=X) h;grind
    grind
def e60(r:UOK U)(h:Rel E Z π σ ρ w){t:TypeId}(c:(match(b7m P t:A3 U.AV)with|some a=>(match b33 P t a with|true=>g7b P fr t a|false=>(.fail:U.Q))|none=>.fail).Ev σ m0 m v ws):a48 P E σ ρ w ⟨d,.alloc t,ty,ps,af,g⟩ v ws:=by
 split at c;case h_2=>exact c.elim
 rename_i a e;split at c;case h_2=>exact c.elim
 let⟨l,C,c⟩:=f0y c;unfold b7m at e;split at e;case h_2=>grind
 rename_i i o;split at e;case h_2=>grind
 rename_i f s;refine e2a (b1u h (obj:=.cells f.cells t) (v':=.pointer (some ⟨w.heap.size,0,none⟩)) l ?_ (by simp_all) rfl rfl (λb A=>A) ?_) c;.simp[execOp,Instr.alloc,zeroValue,typeInfo,o,s,newVar,newRow]
 .rintro n k j B;let⟨u,q,p⟩:=c13 r (X:=n) _ _ _ _ e;refine⟨w.heap.size,u,rfl,?_,p⟩;rw[j,q];have:=Mb.alloc w t f.cells.toList;omega
end
section
variable {P:Program} {U:Uni} {E:Env} {Z:Nat -> Prop} {π:Nat -> A5} {σ:U.St} {ρ:Nat -> A5} {w:World}
variable {d:A3 Tmp} {ty:TypeId} {ps:String} {af:Array Edge} {g:A3 (Nat×Bool)} {x y z:Operand} {m0 m:Nat} {a b v:U.AV} {ws:O (Nat×U.MC)} {fr:Nat}
def d33{id i:Nat}{mc c:U.MC}(h:lk i [(id,mc)]=some c):i=id/\c=mc:=by have:=b1x h;grind
def b6v(id:Nat)(mc:U.MC):lk id [(id,mc)]=some mc:=by show(bif Nat.beq id id then some mc else none)=_;simp_all
def Rel.set(h:Rel E Z π σ ρ w){id:Nat}{mc:U.MC}{w':World}{v':A5}(C:b7a σ id)(p:mc≠.never)(n:Ext (λb=>MB (σ.mem id) (π id) b) w w')(o:∀X':Cx,(cx Z π σ w).Le X'->X'.w=w'->MR X' mc (π id))(c:∀b,MB mc (π id) b->MB (σ.mem id) (π id) b){d:A3 Tmp}(t:∀X':Cx,(cx Z π σ w).Le X'->AVR X' a v'):Rel E Z π (σ.app d a [(id,mc)]) (b20 ρ d v') w':=by
 have f:(cx Z π σ w).Le (cx Z π (σ.app d a [(id,mc)]) w'):=by refine⟨λ_ c=>c,n.mono λb c q=>(h.own id b c).1 q,λi u=>⟨?_,rfl⟩⟩;show(σ.app d a _).mem i≠.never;rw[o8];cases e:lk i _ with|none=>exact u|some l=>let⟨_,rfl⟩:=d33 e;omega
 refine h.next (n.mono λb c=>⟨id,mc,b6v id mc,c⟩) (λ_ c=>c) (λ_ c=>.inl c) (λ_ _=>rfl) (λi l e=>?_) (λi l e=>?_) (λi l b e j=>?_) (λi B D F b A e k _ _=>?_) (t _ f);.let⟨_,rfl⟩:=d33 e;omega
 .let⟨rfl,rfl⟩:=d33 e;exact o _ f rfl
 .let⟨rfl,rfl⟩:=d33 e;let⟨s,r,G⟩:=h.own i b (c b j);exact⟨s,Nat.lt_of_lt_of_le r n.size,.inr ⟨i,_,b6v i _,c b j⟩⟩
 .let⟨rfl,rfl⟩:=d33 e;let⟨rfl,rfl⟩:=d33 k;omega
def f5w(h:UOK U){X:Cx}{c:U.C}{as:O U.AV}{css:O (O A5)}(e:as.map a07=U.lay c)(f:as.all a03=true)(i:y7 (λa s=>∃u:A5,u.cells.toList=s/\b79 X a u) as css):(Value.agg css.flatten.toArray).cells.toList.length=U.n c:=by show css.flatten.toArray.toList.length=_;rw[g2f i f,e,h.sum]
def c9y{X:Cx}{u:A5}(f:b3a a=true)(h:a1p X a u):(a03 a=true/\b79 X a u)\/∃c as css,a=.st c as/\u=.agg css.flatten.toArray/\as.map a07=U.lay c/\as.all a03=true/\y7 (λa s=>∃u:A5,u.cells.toList=s/\b79 X a u) as css:=by cases e:a with|st c as=>subst e;let⟨css,l,k,i,j⟩:=h;exact .inr ⟨c,as,css,rfl,l,k,i,j⟩|_=>subst e;first|(cases f;done)|exact .inl ⟨rfl,a1p.to0 rfl h⟩
def e1j(k:UOK U){X:Cx}{u:A5}(i:b3a a=true)(h:a1p X a u):u.cells.toList.length=asz a:=by
 rcases c9y i h with⟨n,j⟩|⟨c,p,l,rfl,rfl,e,f,o⟩;.exact c49 n j
 .exact f5w k e f o
def e2c{X:Cx}{a:U.AV}{u:A5}(e:a03 a=true)(h:b79 X a u):∀q∈u.cells.toList,q.oneCell'=true:=by
 cases c:b0p a with|true=>
   cases a<;>try(cases c;done)
   case st=>exact h.elim
   let⟨j,n,f⟩:=h;intro q k;exact f9t f q (by grind[Value.cells])|false=>
   have i:u.oneCell'=true:=by cases a<;>first|(cases e;done)|(cases c;done)|(subst h;rfl)|exact c7u h|(let⟨l,j,h,_⟩:=h;subst h;rfl)|(let⟨_,_,i⟩:=h;omega)
   simp_all[c0w]
def e1a{X:Cx}{u:A5}(l:b3a a=true)(h:a1p X a u):∀q∈u.cells.toList,q.oneCell'=true:=by
 rcases c9y l h with⟨r,o⟩|⟨c,n,e,rfl,rfl,j,f,k⟩;.exact e2c r o
 .intro q i;have i:q∈e.flatten:=by simpa[Value.cells]using i
  clear j l h;induction n generalizing e with
  |nil=>cases e with|nil=>grind|cons _ _=>exact k.elim
  |cons a n p=>cases e with|nil=>grind|cons s e=>
      simp only[all_cons,qB]at f;rcases qK.1 (by grind:q∈s++e.flatten)with i|i;.let⟨u,A,t⟩:=k.1;exact e2c f.1 t q (by grind)
      .exact p e f.2 k.2 (by simp[Value.cells]at i⊢;omega) i
def c22{c f:Type}{p:c->f->Prop}:∀{l:O c}{r:O f}(n:Nat)(a:c)(b:f),y7 p l r->p a b->y7 p (l.set n a) (r.set n b)|[],[],_,_,_,_,_=>trivial|_::_,_::_,0,_,_,h,e=>⟨e,h.2⟩|_::_,_::_,n+1,a,b,h,e=>⟨h.1,c22 n a b h.2 e⟩|[],_::_,_,_,_,h,_=>h.elim|_::_,[],_,_,_,h,_=>h.elim
def b3t:∀(css:O (O A5))(n:Nat)(s t:O A5),css[n]?=some s->t.length=s.length->(css.set n t).flatten=css.flatten.take ((css.take n).flatten.length)++t++css.flatten.drop ((css.take n).flatten.length+t.length)|[],n,s,t,h,_=>by grind|c::css,0,s,t,h,e=>by simp_all|c::css,n+1,s,t,h,e=>by simp [set_cons_succ,flatten_cons,take_succ_cons,qL,(b3t css n s t (by simp_all) e)];rw[take_length_add_append,Nat.add_assoc];simp_all
def d9o{cs:O A5}{o k c:Nat}{t:O A5}(h:o+k<=cs.length)(e:c+t.length<=k):cs.take o++(((cs.drop o).take k).take c++t++((cs.drop o).take k).drop (c+t.length))++cs.drop (o+k)=cs.take (o+c)++t++cs.drop (o+c+t.length):=by
 have f:((cs.drop o).take k).drop (c+t.length)++cs.drop (o+k)=cs.drop (o+c+t.length):=by
  rw[drop_take,drop_drop];have:cs.drop (o+k)=(cs.drop (o+(c+t.length))).drop (k-(c+t.length)):=by rw[drop_drop];grind
  rw[this,take_append_drop,Nat.add_assoc]
 grind
def e3i:∀(css:O (O A5))(n:Nat)(s:O A5),css[n]?=some s->(css.flatten.drop ((css.take n).flatten.length)).take s.length=s/\(css.take n).flatten.length+s.length<=css.flatten.length|[],n,s,h=>by grind|c::css,0,s,h=>by simp_all|c::css,n+1,s,h=>by let⟨i,f⟩:=e3i css n s (by simp_all);simp only[take_succ_cons,flatten_cons,qL];refine⟨?_,by omega⟩;simp_all
def FV(X:Cx)(a:U.AV)(s:O A5):Prop:=s.length=asz a/\∃u:A5,u.cells.toList=s/\a1p X a u
def h0v{X:Cx}{as:O U.AV}{css:O (O A5)}(h:y7 (FV X) as css)(n:Nat):(css.take n).flatten.length=(((as.map a07).take n).map osz).sum:=by induction as generalizing css n with
 |nil=>cases css with|nil=>simp|cons _ _=>exact h.elim
 |cons a as e=>cases css with|nil=>exact h.elim|cons c css=>cases n with|zero=>simp|succ n=>simp [take_succ_cons,flatten_cons,qL,map_cons,sum_cons,e h.2 n,b0z,h.1.1]
def f7c{X:Cx}{c:U.C}{as:O U.AV}{css:O (O A5)}{n:Nat}{q f:U.AV}{j:Nat}{t:O A5}(e:y7 (FV X) as css)(l:as.map a07=U.lay c)(D:as[n]?=some q)(u:asz q=asz f)(o:∀s,css[n]?=some s->FV X q s->(∃k:A5,k.cells.toList=s.take j++t++s.drop (j+t.length)/\a1p X f k)/\j+t.length<=s.length):∃h,y7 (FV X) (as.set n f) h/\h.flatten=css.flatten.take (off c n+j)++t++css.flatten.drop (off c n+j+t.length)/\off c n+j+t.length<=css.flatten.length:=by
 let⟨s,p,C⟩:=e.get D;let⟨⟨k,B,A⟩,r⟩:=o s p C;have G:off c n=(css.take n).flatten.length:=by rw[h0v e n,l];rfl
 let⟨H,F⟩:=e3i css n s p;have i:k.cells.toList.length=s.length:=by rw[B];simp [qL,length_take,length_drop];omega
 refine⟨css.set n _,c22 n f _ e ⟨by rw[i,C.1,u],k,rfl,A⟩,?_,by omega⟩;rw[b3t css n s _ p i];have:=d9o (by omega) r;grind
def c4g(c:UOK U){X:Cx}{as:O U.AV}{css:O (O A5)}(h:y7 (e8 Rp X.G X.w) as css):y7 (FV X) as css:=h.mono λa s e=>⟨a9t c e,by simp_all[a18]⟩
def c7h{X:Cx}:∀{as:O U.AV}{css:O (O A5)},as.all a03=true->y7 (λa s=>∃u:A5,u.cells.toList=s/\b79 X a u) as css->y7 (FV X) as css|[],[],_,_=>trivial|a::as,s::css,c,h=>by simp only[all_cons,qB]at c;let⟨u,f,e⟩:=h.1;exact⟨⟨by rw[<-f];exact c49 c.1 e,u,f,.of0 e⟩,c7h c.2 h.2⟩|[],_::_,_,h=>h.elim|_::_,[],_,h=>h.elim
def e3q{X:Cx}:∀{as:O U.AV}{css:O (O A5)},as.all a03=true->y7 (FV X) as css->y7 (λa s=>∃u:A5,u.cells.toList=s/\b79 X a u) as css|[],[],_,_=>trivial|a::as,s::css,c,h=>by simp only[all_cons,qB]at c;let⟨_,u,f,e⟩:=h.1;exact⟨⟨u,f,e.to0 c.1⟩,e3q c.2 h.2⟩|[],_::_,_,h=>h.elim|_::_,[],_,h=>h.elim
def e8r{c j:Type}(f:c->j):∀(l:O c)(n:Nat)(a b:c),l[n]?=some a->f b=f a->(l.set n b).map f=l.map f|[],n,a,b,h,_=>by grind|x::l,0,a,b,h,e=>by simp_all|x::l,n+1,a,b,h,e=>by simp only[set_cons_succ,map_cons];rw[e8r f l n a b (by simp_all) e]
def g3a{c:Type}(p:c->Bool):∀(l:O c)(n:Nat)(b:c),l.all p=true->p b=true->(l.set n b).all p=true:=by grind
def d41{a b:U.AV}(h:d3t a b=true):a07 a=a07 b:=by
 unfold d3t at h;split at h;.grind
 .rename_i c i e f;rw[e,f,c0a h]
 grind
def d94{e:U.AV}{p:O PE}{h:U.AV}(f:d0o b e p=some h):p=[]\/∃c,a07 e=some c:=by cases p with|nil=>grind|cons q p=>cases e<;>first|exact .inr ⟨_,rfl⟩|(cases q<;>cases f)
def c4i(A:UOK U){X:Cx}{N:A5}(hb:a1p X b N)(hp:b3a b=true):∀(p:O PE)(a:U.AV)(c:U.C)(cs:O A5)(a':U.AV),cs.length=asz a->(p≠[]->∃u:A5,u.cells.toList=cs/\a1p X a u)->d0o b a p=some a'->(p=[]\/a07 a=some c)->okV c p->asz a=asz a'->(∃u',u'.cells.toList=cs.take (b3g c p)++N.cells.toList++cs.drop (b3g c p+N.cells.toList.length)/\a1p X a' u')/\b3g c p+N.cells.toList.length<=cs.length/\(p=[]->a'=b)
 |[],a,c,cs,a',hl,_,j,_,_,hsz=>by
   cases j;have K:=e1j A hp hb;refine⟨⟨N,?_,hb⟩,?_,λ_=>rfl⟩;.simp [b3g,take_zero,nil_append,Nat.zero_add];simp_all
   .simp only[b3g];omega|.f n::p,a,c,cs,a',hl,hr,j,S,L,hsz=>by
   replace S:=S.resolve_left (λh=>by grind);let⟨u,R,Q⟩:=hr (by simp);have go:∀(as:O U.AV)(k:O (O A5))(B t:U.AV),y7 (FV X) as k->as.map a07=U.lay c->k.flatten=cs->as[n]?=some B->d0o b B p=some t->asz B=asz t->∃o,y7 (FV X) (as.set n t) o/\o.flatten=cs.take (b3g c (.f n::p))++N.cells.toList++cs.drop (b3g c (.f n::p)+N.cells.toList.length)/\b3g c (.f n::p)+N.cells.toList.length<=cs.length:=by
    intro as k B t r F hcs D G hsb;have M:(U.lay c)[n]?=some (a07 B):=by rw[<-F,getElem?_map,D];rfl
    have I:p=[]\/a07 B=some ((a07 B).getD c):=by cases p with|nil=>simp_all|cons q p=>right;cases B<;>first|rfl|(cases q<;>cases G)
    have hoff:b3g c (.f n::p)=off c n+b3g ((a07 B).getD c) p:=by simp [b3g,M];cases hcb:a07 B with|some c1=>rfl|none=>
       rcases I with rfl|K;.rfl
       grind
    rw[hoff];subst hcs;refine f7c r F D hsb λs hs hv=>?_;let⟨K,h2,_⟩:=c4i A hb hp p B ((a07 B).getD c) s t hv.1 (λ_=>hv.2) G I (by simp [okV,M]at L;cases hcb:a07 B with|some c1=>simp_all|none=>
       rcases I with rfl|K;.trivial
       grind) hsb;exact⟨K,h2⟩
   cases a<;>try(cases S;done)
   case val c' J=>
    cases S;simp [d0o]at j;split at j
    .rename_i B D;split at j
     .rename_i t G;split at j;.rename_i W;simp only[qB]at W;cases hmk:U.mkv c ((U.flds c J).set n t)with|none=>rw[hmk]at j;cases j|some yv=>rw[hmk]at j;cases j;let⟨cs0,C,H⟩:=Q;rw[C]at R;subst R;let⟨_,k,hcs,r⟩:=a91.1 H;let⟨o,K,h2,h3⟩:=go _ k B t (c4g A r) (A.lay c J) hcs.symm D G (qC W.1);refine⟨⟨.agg o.flatten.toArray,by rw[<-h2];simp[Value.cells],o.flatten,rfl,d1x A hmk (K.mono λ_ _ h=>h.2)⟩,h3,λh=>by cases h⟩
      .cases j
     .cases j
    .cases j
   case st c' as=>
    cases S;simp [d0o]at j;split at j
    .rename_i B D;split at j
     .rename_i t G;split at j;.rename_i hsc;simp [qB]at hsc;have hco:=d41 hsc.1;cases j;let⟨k,C,F,hpp,hrr⟩:=Q;rw[C]at R;let⟨o,K,h2,h3⟩:=go _ k B t (c7h hpp hrr) F R D G (by rw[<-b0z,<-b0z,hco]);have T:=g3a a03 as n t hpp hsc.2;refine⟨⟨.agg o.flatten.toArray,by rw[<-h2];simp[Value.cells],o,rfl,?_,T,e3q T K⟩,h3,λh=>by cases h⟩;rw[e8r a07 as n B t D hco.symm];omega
      .cases j
     .cases j
    .cases j|.i n::p,a,c,cs,a',hl,hr,j,S,L,hsz=>by
   replace S:=S.resolve_left (λh=>by grind);let⟨u,R,Q⟩:=hr (by simp);cases a<;>try(cases j)
   case val c' J=>
    cases S;simp [d0o]at j;split at j;case h_2=>grind
    rename_i hA;let⟨h0,K,L⟩:=L;let⟨y0,Y⟩:=f2g (l:=U.al c J) h0 (by rw[(A.arr c J hA).2];omega);rw[A.gt c J n y0 hA Y]at j;split at j;case h_2=>grind
    rename_i a1 hup1;split at j;case h_2=>grind
    rename_i y1 V;cases j;let⟨cs0,C,H⟩:=Q;rw[C]at R;have R:=by simpa[Value.cells]using R
    subst R;let⟨_,k,hcss,r⟩:=a91.1 H;rw[(A.arr c J hA).1]at r;let⟨_,hg1,hg2⟩:=c3z (inj (U.ae c)) Y;let⟨s,hs,hfs⟩:=r.get hg1;have ht:=c4n A (U.al c J) k n.toNat r (by omega);have hk3:=(a1w A (U.ae c) y0).2.2;have hps:=d53 A V;have hsl:=a9t A hfs;let⟨⟨u',hu',hr'⟩,hle,_⟩:=c4i A hb hp p (inj (U.ae c) y0) (U.ae c) s a1 hsl (λ_=>by let⟨u,K,h2⟩:=a18 hfs;exact⟨u,K,h2⟩) hup1 (by have hk2:=(a1w A (U.ae c) y0).2.1;cases hag:U.ag (U.ae c)with|true=>simp[inj,hag,a07]|false=>
       left;rcases d94 hup1 with h|⟨c1,h⟩;.omega
       .rw[hag]at hk2;cases hi:(inj (U.ae c) y0:U.AV)<;>rw[hi]at h hk2<;>first|(cases h;done)|(cases hk2)) L (by omega);have hrep1:=b85 A V hr';have hul:u'.cells.toList.length=s.length:=by rw[hu'];simp only[qL,length_take,length_drop];omega
    let⟨q1,q2⟩:=e3i k n.toNat s hs;have hnew:(k.set n.toNat u'.cells.toList).flatten=cs0.take (n.toNat*U.n (U.ae c)+b3g (U.ae c) p)++N.cells.toList++cs0.drop (n.toNat*U.n (U.ae c)+b3g (U.ae c) p+N.cells.toList.length):=by rw[b3t k n.toNat s _ hs hul,hul,hu',hcss];have:=d9o q2 hle;rw[q1]at this;rw[ht]at this⊢;omega
    refine⟨⟨.agg _,?_,(k.set n.toNat u'.cells.toList).flatten,rfl,c96 A ?_⟩,?_,λh=>by cases h⟩;.rw[hnew];rfl
    .rw[(A.arr c _ hA).1,A.ars c J n y1 hA];have e:(a8h (U.al c J) n y1).map (inj (U.ae c))=((U.al c J).map (inj (U.ae c))).set n.toNat (inj (U.ae c) y1):=by unfold a8h;rw[if_pos h0,map_set]
     rw[e];exact c22 _ _ _ r (b6w A hrep1)
    .show n.toNat*U.n (U.ae c)+b3g (U.ae c) p+_<=_;rw[hcss];omega
def b0r{t:TypeId}(h:b33 P t a=true):b3a a=true/\g6u P t (b0p a)=true/\e54 P t (asz a)=true:=by grind[b33]
def d08(i:UOK U){t:TypeId}{u:A5}(e:b33 P t a=true){X:Cx}(h:a1p X a u)(ad:Addr)(w:World):(Instr.storeAt t (.pointer (some ad)) u).run P w=(storeCells ad u.cells.toList).run P w:=by let⟨c,_,f⟩:=b0r e;simp[Instr.storeAt,Instr.sureAddr,storeVar,b45 f,<-(e1j i c h)]
def d4w{G:Nat->Prop}{o:Oper}{Φ:World->Prop}(h:∀(F:O Fact)(p:Plan),F[0]?=some (0,λ_ w'=>Φ w')->p.mu.contains 0=true->a0k P ⟨none,o.op,o.type,o.pos,o.after,o.guard⟩ (ev ρ) w λv w'=>Ext (if p.mu.contains 0then G else noG) w w'/\fact F 0 (b20 ρ none v) w'):a0k P o (ev ρ) w λv w'=>Ext G w w'/\Φ w':=by have c:=h [(0,λ_ w'=>Φ w')] (.plain [] [] [] [0] []) rfl rfl;exact c.mono λv w'⟨f,e⟩=>⟨f,e⟩
def c4j(M:UOK U)(h:Rel E Z π σ ρ w){t G:TypeId}{id:Nat}{c:U.C}{p:O PE}{i n:U.AV}{r:A5}{ad:Addr}(e:σ.mem id=.box G i)(hc:p=[]\/a07 i=some c)(D:okV c p)(N:b33 P t b=true)(A:d0o b i p=some n)(f:(Nat.beq (asz i) (asz n)&&(b0p i==b0p n)&&b3a i)=true)(C:a1p (cx Z π σ w) b r)(W:ev ρ y=r)(l:c5g (π id)=some ad)(hx:ev ρ x=.pointer (some (ad.add (b3g c p))))(hu:b7a σ id):a48 P E σ ρ w ⟨d,.store t x y,ty,ps,af,g⟩ .undef [(id,.box G n)]:=by
 have S:=h.mem id;rw[e]at S;let⟨j,u,Q,hM,V⟩:=S;rw[Q]at l;cases l;simp only[qB]at f;let⟨⟨u',hu',s⟩,K,_⟩:=c4i M C (b0r N).1 p i c _ n (e1j M (f.2) V) (λhp=>⟨u,rfl,V⟩) A hc D (qC f.1.1);have k:=d4w (w:=w) (o:=⟨d,.store t x y,ty,ps,af,g⟩) λF pl Y L=>c2z Y L (λ_ h=>h) hx rfl W hM (λad w=>d08 M N C ad w) K rfl (e1a (b0r N).1 C);have H:a0k P ⟨d,.store t x y,ty,ps,af,g⟩ (ev ρ) w λv I=>v=undef/\Ext (λq=>q=j) w I/\Mb I j G (u.cells.toList.take (b3g c p)++r.cells.toList++u.cells.toList.drop (b3g c p+r.cells.toList.length)):=by unfold a0k at k⊢;simp only[execOp,Sem.run_bind]at k⊢;cases T:(Instr.storeAt t _ _).run P w with|halt h0 X=>rw[T]at k;exact k.elim|ok v0 X=>rw[T]at k;exact⟨trivial,k⟩
 refine H.mono λv I⟨J,hE,hM'⟩=>⟨Z,π,?_⟩;subst J;refine h.set hu (λh=>by grind) (hE.mono λq B=>?_) (λX' R hw=>?_) (λq B=>?_) (λX' R=>rfl);.subst B;rw[e,Q];rfl
 .rw[Q];refine⟨j,u',rfl,?_,s.le R⟩;grind
 .rw[e];exact B
def f1h{c e:Type}{p:c->e->Prop}{l:O c}{r:O e}{n:Int}{a:c}{b:e}(h:y7 p l r)(f:p a b):y7 p (a8h l n a) (a8h r n b):=by
 unfold a8h;split;all_goals simp_all[c22]
def f4e(A:UOK U)(h:Rel E Z π σ ρ w){t e:TypeId}{id:Nat}{c:U.C}{p:O PE}{l:O (U.T c)}{n:Int}{K y1:U.T c}{X:U.AV}{ub:A5}{ad:Addr}(j:σ.mem id=.sl e c l)(hok:okV c p)(G:c7 l n=some K)(V:b33 P t b=true)(D:d0o b (inj c K) p=some X)(k:prj c X=some y1)(Y:a1p (cx Z π σ w) b ub)(hy:ev ρ y=ub)(H:c5g (π id)=some ad)(hx:ev ρ x=.pointer (some (ad.add (d2l c (.i n::p)))))(hu:b7a σ id):a48 P E σ ρ w ⟨d,.store t x y,ty,ps,af,g⟩ .undef [(id,.sl e c (a8h l n y1))]:=by
 have hm:=h.mem id;rw[j]at hm;let⟨css,hO,L⟩:=hm;let⟨r0,B,I⟩:=c45 L G;let⟨ad',cap,R,hi,hca⟩:=Own.elem hO B;rw[R]at H;cases H;let⟨hk1,s,hk3⟩:=a1w A c K;have hps:=d53 A k;let⟨⟨u',S,M⟩,hle,_⟩:=c4i A Y (b0r V).1 p _ c r0.1 X (by omega) (λ_=>by let⟨u,h1,h2⟩:=d9e A I;exact⟨u,h1,h2⟩) D (by cases C:U.ag c with|true=>simp[inj,C,a07]|false=>
    left;rcases d94 D with h|⟨c1,h⟩;.omega
    .rw[C]at s;cases hi:(inj c K)<;>rw[hi]at h s<;>first|(cases h;done)|(cases s)) hok (by omega);have f:=b85 A k M;have J:=d4w (w:=w) (o:=⟨d,.store t x y,ty,ps,af,g⟩) λF pl hF Q=>d49 (off:=b3g c p) hF Q (λ_ h=>h) (λr=>r.2.1) hx R (by simp [d2l]) hy hO B (λad w=>d08 A V Y ad w) (by omega) (by rw[show(d0s f).1=u'.cells.toList from rfl,S]) (e1a (b0r V).1 Y);have hY2:a0k P ⟨d,.store t x y,ty,ps,af,g⟩ (ev ρ) w λv w'=>v=undef/\Ext (λq=>(π id).ownBlock=some q) w w'/\Own 0 e (U.n c) Subtype.val w' (π id) (a8h css n (d0s f)):=by unfold a0k at J⊢;simp only[execOp,Sem.run_bind]at J⊢;cases L:(Instr.storeAt t _ _).run P w with|halt h0 w0=>simp_all|ok v0 w0=>rw[L]at J;exact⟨trivial,J⟩
 refine hY2.mono λv w'⟨T,hE,hO'⟩=>⟨Z,π,?_⟩;subst T;refine h.set hu (λh=>by cases h) (hE.mono λq W=>?_) (λX' N hw=>?_) (λq W=>?_) (λX' N=>rfl);.rw[j];exact(a95 R).1 W
 .refine⟨_,by rw[hw];omega,?_⟩;exact f1h (L.mono λr x hh=>c42 N hh) (c42 N f)
 .rw[j];exact W
def e7t(k:UOK U)(h:Rel E Z π σ ρ w){t N:TypeId}{id:Nat}{c:U.C}{p:O PE}{xv:U.T c}{n:Int}{V S:U.T (U.ae c)}{a1:U.AV}{C:A5}{ad:Addr}(r:σ.mem id=.box N (.val c xv))(hok:okV (U.ae c) p)(hA:U.isA c=true)(W:c7 (U.al c xv) n=some V)(hf:b33 P t b=true)(K:d0o b (inj (U.ae c) V) p=some a1)(A:prj (U.ae c) a1=some S)(hb:a1p (cx Z π σ w) b C)(hy:ev ρ y=C)(X:c5g (π id)=some ad)(hx:ev ρ x=.pointer (some (ad.add (d2l (U.ae c) (.i n::p)))))(hu:b7a σ id):a48 P E σ ρ w ⟨d,.store t x y,ty,ps,af,g⟩ .undef [(id,.box N (.val c (U.ast c xv n S)))]:=by
 have hm:=h.mem id;rw[r]at hm;let⟨l,u,hv,hM,ha⟩:=hm;rw[hv]at X;cases X;let⟨G,hcs,L⟩:=ha;let⟨_,f,B,j⟩:=a91.1 L;rw[(k.arr c xv hA).1]at j;let⟨h0,Y,hg2⟩:=c3z (inj _) W;let⟨s,hs,R⟩:=j.get Y;have ht:=c4n k _ f n.toNat j (by omega);have hk3:=(a1w k _ V).2.2;have hps:=d53 k A;let⟨⟨T,M,hr'⟩,hle,_⟩:=c4i k hb (b0r hf).1 p _ _ s a1 (a9t k R) (λ_=>by let⟨u,h1,h2⟩:=a18 R;exact⟨u,h1,h2⟩) K (by have D:=(a1w k _ V).2.1;cases J:U.ag (U.ae c)with|true=>simp[inj,J,a07]|false=>
    left;rcases d94 K with h|⟨c1,h⟩;.omega
    .rw[J]at D;cases hi:(inj _ V)<;>rw[hi]at h D<;>first|(cases h;done)|(cases D)) hok (by omega);have I:T.cells.toList.length=s.length:=by rw[M];simp only[qL,length_take,length_drop];omega
 let⟨q1,q2⟩:=e3i f _ s hs;have Q:(f.set n.toNat T.cells.toList).flatten=G.take (n.toNat*U.n (U.ae c)+b3g (U.ae c) p)++C.cells.toList++G.drop (n.toNat*U.n (U.ae c)+b3g (U.ae c) p+C.cells.toList.length):=by rw[b3t f _ s _ hs I,I,M];have:=d9o q2 hle;rw[q1]at this;rw[ht]at this⊢;rw[B];omega
 have hL:n.toNat*U.n (U.ae c)+b3g (U.ae c) p+C.cells.toList.length<=G.length:=by rw[B];omega
 have H:=d4w (o:=⟨d,.store t x y,ty,ps,af,g⟩) λF pl hF hmu=>c2z hF hmu (λ_ h=>h) hx rfl hy (show Mb w l N G by have h9:Mb w l N _:=hM;rw[hcs]at h9;simpa[Value.cells]using h9) (λad w=>d08 k hf hb ad w) hL rfl (e1a (b0r hf).1 hb);have hY2:a0k P ⟨d,.store t x y,ty,ps,af,g⟩ (ev ρ) w λv w'=>v=undef/\Ext (λq=>q=l) w w'/\Mb w' l N (G.take (n.toNat*U.n (U.ae c)+b3g (U.ae c) p)++C.cells.toList++G.drop (n.toNat*U.n (U.ae c)+b3g (U.ae c) p+C.cells.toList.length)):=by unfold a0k at H⊢;simp only[execOp,Sem.run_bind]at H⊢;cases hr:(Instr.storeAt t _ _).run P w with|halt h0 w0=>rw[hr]at H;exact H.elim|ok v0 w0=>rw[hr]at H;exact⟨trivial,H⟩
 refine hY2.mono λv w'⟨hv0,hE,hM'⟩=>⟨Z,π,?_⟩;subst hv0;refine h.set hu (λh=>by cases h) (hE.mono λq hq=>?_) (λX' hX hw=>?_) (λq hq=>?_) (λX' hX=>rfl);.subst hq;rw[r,hv];rfl
 .rw[hv];refine⟨l,.agg _,rfl,?_,(f.set n.toNat T.cells.toList).flatten,rfl,?_⟩
  .rw[hw];have:(Value.agg (f.set n.toNat T.cells.toList).flatten.toArray).cells.toList=(f.set n.toNat T.cells.toList).flatten:=by simp[Value.cells]
   rw[this,Q];omega
  .refine c96 k ?_;rw[(k.arr c _ hA).1,k.ars c xv n S hA];have e:(a8h (U.al c xv) n S).map (inj _)=((U.al c xv).map (inj _)).set n.toNat (inj _ S):=by unfold a8h;rw[if_pos h0,map_set]
   rw[e];exact c22 _ _ _ (j.mono λa s hh=>hh.le hX) (b6w k (c42 hX (b85 k A hr')))
 .rw[r];exact hq
def c7k(R:UOK U)(h:Rel E Z π σ ρ w){t:TypeId}{id:Nat}{c:U.C}{p:O PE}{W:A5}{ad:Addr}(S:b33 P t b=true)(D:a1p (cx Z π σ w) b W)(H:ev ρ y=W)(N:b7a σ id)(G:c5g (π id)=some ad)(I:ev ρ x=.pointer (some (ad.add (d2l c p))))(k:c18 c (σ.mem id) p=true)(s:okP c p)(j:(d92 (σ.mem id) p b λm'=>(Q.done .undef [(id,m')]:U.Q)).Ev σ m0 m v ws):a48 P E σ ρ w ⟨d,.store t x y,ty,ps,af,g⟩ v ws:=by
 cases r:σ.mem id<;>rw[r]at j k<;>try exact j.elim
 case box L o=>
  have J:(match d0o b o p with|some C=>(match Nat.beq (asz o) (asz C)&&(b0p o==b0p C)&&b3a o with|true=>Q.done .undef [(id,.box L C)]|false=>.fail)|none=>(.fail)).Ev σ m0 m v ws->g59 c (.box L o)=true->okV c p->ev ρ x=.pointer (some (ad.add (b3g c p)))->a48 P E σ ρ w ⟨d,.store t x y,ty,ps,af,g⟩ v ws:=by
   intro j k s I;split at j
   .rename_i T A;split at j
    .rename_i hs;obtain⟨K,rfl,rfl⟩:=j;refine c4j R h r (.inr ?_) s S A hs D H G I N;cases o<;>try(cases k)
     all_goals have:=c0a k;subst this;rfl
    .exact j.elim
   .exact j.elim
  cases p with|nil=>exact J (by cases o<;>exact j) (by cases o<;>exact k) trivial I|cons q p=>cases q with|f n=>exact J (by cases o<;>exact j) (by cases o<;>exact k) s I|i n=>
      have B:d0o b o (.i n::p)=none->(match d0o b o (.i n::p)with|some C=>(match Nat.beq (asz o) (asz C)&&(b0p o==b0p C)&&b3a o with|true=>Q.done .undef [(id,.box L C)]|false=>.fail)|none=>(.fail)).Ev σ m0 m v ws->a48 P E σ ρ w ⟨d,.store t x y,ty,ps,af,g⟩ v ws:=by intro X j;rw[X]at j;exact j.elim
      cases o<;>try exact B rfl j
      rename_i V xv;have j:(match U.isA V with|true=>Q.opt _ _|false=>(.fail)).Ev σ m0 m v ws:=j;have k:(U.isA V&&eqC c _)=true:=k;simp [qB]at k;rw[k.1]at j;let⟨y0,F,j⟩:=j;have M:=c0a k.2;subst M;dsimp only at j;split at j
      .rename_i T A;split at j;.rename_i Y u;obtain⟨K,rfl,rfl⟩:=j;exact e7t R h r s k.1 F S A u D H G I N
       .exact j.elim
      .exact j.elim
 case sl e c' l=>have:=c0a k;subst this;cases p with|nil=>exact j.elim|cons q p=>cases q with|f n=>exact j.elim|i n=>
      let⟨y0,F,j⟩:=j;dsimp only at j;split at j
      .rename_i T A;split at j;.rename_i Y u;obtain⟨K,rfl,rfl⟩:=j;exact f4e R h r s F S A u D H G I N
       .exact j.elim
      .exact j.elim
def d9q{L:U.MC}{p:O PE}{k:U.MC->U.Q}(h:(d92 L p b k).Ev σ m0 m v ws):∃G C,(k G).Ev σ C m v ws/\∀(j:U.St)(s:U.MC->U.Q)(A:Nat)(u:U.AV)(o:O (Nat×U.MC)),(s G).Ev j C A u o->(d92 L p b s).Ev j C A u o:=by
 cases L<;>try exact h.elim
 case box K r=>
  have W:∀(t:U.C)(D:U.T t)(n:Int)(F:O PE),r=.val t D->p=.i n::F->∃G C,(k G).Ev σ C m v ws/\∀(j:U.St)(s:U.MC->U.Q)(A:Nat)(u:U.AV)(o:O _),(s G).Ev j C A u o->(d92 (.box K r) p b s).Ev j C A u o:=by
   intro t D n F T S;subst T;subst S;have h:(match U.isA t with|true=>Q.opt _ _|false=>(.fail)).Ev σ m0 m v ws:=h;split at h
   .rename_i V;let⟨J,B,h⟩:=h;dsimp only at h;split at h
    .split at h;.refine⟨_,_,h,λj s A u o R=>?_⟩;show(match U.isA t with|true=>Q.opt _ _|false=>(.fail)).Ev j _ _ _ _;rw[V];refine⟨J,B,?_⟩;simp_all
     .exact h.elim
    .exact h.elim
   .exact h.elim
  have H:(∃t D n F,r=.val t D/\p=.i n::F)\/∀N,d92 (.box K r) p b N=(match d0o b r p with|some M=>(match Nat.beq (asz r) (asz M)&&(b0p r==b0p M)&&b3a r with|true=>N (.box K M)|false=>.fail)|none=>(.fail)):=by
   cases r;case val t D=>cases p with|nil=>exact .inr λ_=>rfl|cons q p=>cases q with|f n=>exact .inr λ_=>rfl|i n=>exact .inl ⟨_,_,n,p,rfl,rfl⟩
   all_goals exact .inr λ_=>by cases p<;>rfl
  rcases H with⟨t,D,n,F,T,S⟩|H;.grind
  rw[H k]at h;split at h
  .rename_i Y I;split at h;.rename_i X;refine⟨_,_,h,λj s A u o R=>?_⟩;rw[H s];rw[I];dsimp only;rw[X];omega
   .exact h.elim
  .exact h.elim
 case sl e c l=>cases p with|nil=>exact h.elim|cons q p=>cases q with|f n=>exact h.elim|i n=>
      let⟨J,B,h⟩:=h;dsimp only at h;split at h
      .split at h;.refine⟨_,_,h,λj s A u o R=>⟨J,B,?_⟩⟩;simp_all
       .exact h.elim
      .exact h.elim
def e4s(J:UOK U)(h:Rel E Z π σ ρ w){t:TypeId}(M:AVR (cx Z π σ w) a (ev ρ x))(W:AVR (cx Z π σ w) b (ev ρ y))(f:(e7c P fr t a b).Ev σ m0 m v ws):a48 P E σ ρ w ⟨d,.store t x y,ty,ps,af,g⟩ v ws:=by
 unfold e7c at f;split at f;case h_2=>exact f.elim
 rename_i R;have D:=a8m (b1s (b0r R).1) W;split at f
 .rename_i o;have f:(d92 _ [] b _).Ev σ _ m v ws:=f;cases n:σ.mem o<;>rw[n]at f<;>try exact f.elim
  rename_i t0 B;have e0:∀K,d92 (.box t0 B) [] b K=(match Nat.beq (asz B) _&&(b0p B==b0p b)&&b3a B with|true=>K _|false=>(.fail)):=λK=>by cases B<;>rfl
  rw[e0]at f;split at f
  .rename_i hs;have Y:=h.mem o;rw[n]at Y;let⟨blk,u,G,hM,ha⟩:=Y;refine c44 (c4j J h (c:=U.c0) n (.inl rfl) trivial R rfl hs D rfl (by rw[G];rfl) ?_ M.1) b6q (λi _ hn=>a5o (λe=>?_)) f;.rw[M.2.1];show π o=.pointer _;rw[G];rfl
   simp_all
  .exact f.elim
 .rename_i o c p;let⟨X,ad,H,A,G⟩:=M;have f:(match c18 c _ p with|true=>(match g8q _ p b with|true=>d92 _ p b _|false=>(match c0t o b with|true=>.fail|false=>d93 [b] _))|false=>(.fail)).Ev σ _ m v ws:=f;cases l:c18 c _ p with|false=>rw[l]at f;exact f.elim|true=>
    rw[l]at f;dsimp only at f;split at f;.exact c7k J h R D rfl X H G l A f
    .split at f;.exact f.elim
     rename_i j;let⟨as',I,m1,f,_,s,S,hA⟩:=c6x J h (as:=[b]) (us:=[ev ρ y]) ⟨W,trivial⟩ f;split at f;case h_2=>exact f.elim
     split at f;case h_2=>exact f.elim
     rename_i C;let⟨V,m2,hd,F⟩:=d9q f;let⟨_,L,N⟩:=hd;rw[L,N];have k:(σ.app none .unk I).mem o=σ.mem o:=by rw[o8];cases hl:lk o I with|none=>rfl|some mm=>have:=S _ (b1x hl);simp [qF]at this;rw[<-this]at j;simp[c0t]at j
     have r:=F (σ.app none .unk I) (λV=>Q.done .undef [(o,V)]) m2 _ _ ⟨rfl,rfl,rfl⟩;rw[<-k]at r l;exact f4w h s (c7k J (h.freeze s) C (a8m (b1s (b0r C).1) ((hA I s λq T=>⟨T,e64 T⟩).1)) rfl (by unfold b7a;rw[k];exact X) H G l A r)
 .exact f.elim
def d8q{a:U.AV}(h:c06 a=true):a03 a=true:=by cases a<;>first|rfl|cases h
def e9m(n:UOK U){X:Cx}{c:U.C}{z:U.T c}{u:A5}(h:a1p X (.val c z:U.AV) u):a1p X (.st c (U.flds c z):U.AV) u:=by
 let⟨o,r,B⟩:=h;obtain⟨_,e,rfl,t⟩:=a91.1 B;refine⟨e,r,n.lay c z,qX.2 λa A=>d8q (qX.1 (n.kind c z) a A),?_⟩;have j:∀(f:O U.AV)(e:O _),f.all c06=true->y7 (e8 Rp X.G X.w) f e->y7 (λa o=>∃u:A5,u.cells.toList=o/\b79 X a u) f e:=by intro f;induction f with
  |nil=>intro e _ h;cases e with|nil=>exact trivial|cons=>exact h.elim
  |cons a f q=>intro e i h;cases e with|nil=>exact h.elim|cons s e=>simp only[all_cons,qB]at i;let⟨p,l,k⟩:=a18 h.1;refine⟨⟨p,l,?_⟩,q e i.2 h.2⟩;cases a<;>first|exact k|cases i.1
 exact j _ _ (n.kind c z) t
def Rel.congrE{σ':U.St}(h:Rel E Z π σ' ρ w)(l:∀t,σ.slot t=σ'.slot t)(e:∀id,σ.mem id=σ'.mem id):Rel E Z π σ ρ w:=by
 have c:cx Z π σ w=cx Z π σ' w:=by unfold cx;unfold b7a;simp_all
 exact⟨λt=>by rw[c,l];exact h.slot t,λid=>by rw[c,e];exact h.mem id,λid b j=>h.own id b (by simp_all),λid f b i j=>by rw[e]at j⊢;exact h.dist id f b i j,h.zlt,h.zin,h.zout,h.ext,λid k=>⟨by unfold b7a;rw[e];exact(h.pin id k).1,(h.pin id k).2⟩,h.tab⟩
def e04(hU:UOK U)(h:Rel E Z π σ ρ w){t:TypeId}(hx:AVR (cx Z π σ w) a (ev ρ x))(hy:AVR (cx Z π σ w) b (ev ρ y))(k:(e11 P fr t a b).Ev σ m0 m v ws):a48 P E σ ρ w ⟨d,.store t x y,ty,ps,af,g⟩ v ws:=by
 unfold e11 at k;split at k;case h_2=>exact k.elim
 rename_i s c n X;have T:=a8m (b1s (b0r X).1) hy;let⟨hu,ad,I,M,hv⟩:=hx;have k:(match σ.mem s with|.box H (.val D z)=>(match eqC c D&&!(c0t s b)with|true=>d92 _ _ b _|false=>.fail)|.box H (.st D fs)=>(match eqC c D&&!(c0t s b)with|true=>d92 _ _ b _|false=>.fail)|_=>(.fail)).Ev σ _ m v ws:=k;split at k
 .rename_i H D z f;split at k;case h_2=>exact k.elim
  rename_i A;have hm:=h.mem s;rw[f]at hm;let⟨V,u,S,hM,ha⟩:=hm;let⟨p,r⟩:∃p,p=σ.app none .unk [(s,.box H (.st D (U.flds D z)))]:=⟨_,rfl⟩;have h1:Rel E Z π p ρ w:=by rw[r];exact h.set (mc:=.box H _) (v':=undef) (λC=>by rw[f]at C;cases C) (λC=>by cases C) (Ext.refl _ w) (λX' N hw=>⟨V,u,S,by rw[hw];exact hM,e9m hU (ha.le N)⟩) (λq hq=>by rw[f];exact hq) λ_ _=>trivial
  have l:p.mem s=.box H (.st D (U.flds D z)):=by rw[r];exact b6q
  have K:∀j,j≠s->p.mem j=σ.mem j:=λj F=>by rw[r,o8,a5o F]
  have W:cx Z π p w=cx Z π σ w:=by
   unfold cx;congr 1;funext j;unfold b7a;by_cases F:j=s;.subst F;rw[l,f];exact propext ⟨λ_=>λC=>(by cases C),λ_=>λC=>(by cases C)⟩
   .rw[K j F]
  let⟨L,R,G,B⟩:=d9q k;split at G
  .have o:=B p (λL=>Q.done .undef [(s,L)]) R _ _ ⟨rfl,rfl,rfl⟩;simp [qB]at A;rw[<-l]at o;refine c44 ?_ b6q (λi _ J=>a5o (λe=>?_)) G
   .refine a0k.mono (c7k hU h1 X (by rw[W];omega) rfl (by unfold b7a;rw[l];intro C;cases C) I hv (by rw[l];exact A.1) M o) λu w'⟨Z',Y,hR⟩=>⟨Z',Y,hR.congrE (λt=>?_) λj=>?_⟩;.rw[s9,r,s9];rfl
    .rw[o8,o8];by_cases F:j=s;.subst F;rw[b6v]
     .rw[a5o F];exact(K j F).symm
   .rw[e,f]at J;cases J
  .exact G.elim
 .rename_i H D fs f;split at k;case h_2=>exact k.elim
  rename_i A;simp [qB]at A;let⟨L,R,G,B⟩:=d9q k;split at G;.have o:=B σ (λL=>Q.done _ [(s,L)]) R .undef _ ⟨rfl,rfl,rfl⟩;rw[<-f]at o;exact c44 (c7k hU h X T rfl hu I hv (by rw[f];exact A.1) M o) b6q (λi _ J=>a5o (λe=>by rw[e,f]at J;cases J)) G
  .exact G.elim
 .exact k.elim
end
section
variable {P:Program} {U:Uni} {E:Env} {Z:Nat -> Prop} {π:Nat -> A5} {σ:U.St} {ρ:Nat -> A5} {w:World}
variable {d:A3 Tmp} {ty:TypeId} {ps:String} {af:Array Edge} {g:A3 (Nat×Bool)} {x y z:Operand} {m0 m:Nat} {a b v:U.AV} {ws:O (Nat×U.MC)} {fr:Nat}
def e6a(o:Nat)(vs cells:Array A5)(h:o+vs.size<=cells.size):(vs.zipIdx.foldl (λcs(c,j)=>cs.setIfInBounds (o+j) c) cells).toList=cells.toList.take o++vs.toList++cells.toList.drop (o+vs.toList.length):=by
 rw[<-Array.foldl_toList,Array.toList_zipIdx];let⟨q,p⟩:=(Great.foldl_set o vs.toList 0 cells);apply ext_getElem?;intro k;rw[Array.getElem?_toList];have i:=p k;simp only[Nat.add_zero]at i;refine Eq.trans i ?_;have n:vs.toList.length=vs.size:=by simp
 have l:cells.toList.length=cells.size:=by simp
 rw[getElem?_append,getElem?_append];simp only[qL,length_take,n,l,Nat.min_eq_left (show o<=cells.size by omega)];by_cases e:k<o;.rw[if_neg (by omega),if_pos (by omega),if_pos e,getElem?_take_of_lt e,Array.getElem?_toList]
 .by_cases f:k<o+vs.size;.rw[if_pos ⟨by omega,f,by omega⟩,if_pos f,if_neg e]
  .rw[if_neg (by omega),if_neg f,getElem?_drop,Array.getElem?_toList];congr 1;omega
def e9g(l:O Nat)(i:Nat):Nat:=(l.take i).sum
def f8i:∀(css:O (O A5)),css.flatten.length=(css.map List.length).sum:=by grind
def c82:∀(css:O (O A5))(i:Nat)(s t:O A5),css[i]?=some s->t.length=s.length->(css.set i t).map List.length=css.map List.length|[],i,s,t,h,_=>by grind|c::css,0,s,t,h,e=>by simp_all|c::css,i+1,s,t,h,e=>by simp only[set_cons_succ,map_cons];rw[c82 css i s t (by simp_all) e]
def d3l{X:Cx}{o:Nat->A3 (Nat×Nat)}{F:O Nat}(H:∀i n,F[i]?=some n->o i=some (e9g F i,n)):∀(B:O Nat)(as:O U.AV)(us:O A5)(fs A:O U.AV)(css:O (O A5))(cells:Array A5),as.all a03=true->y7 (a1p X) as us->g6q fs B as=some A->B.length=as.length->cells.toList=css.flatten->css.map List.length=F->fs.map asz=F->y7 (λa s=>∃u,u.cells.toList=s/\a1p X a u) fs css->∃h e,Instr.fill o cells (B.zip us)=some e/\e.toList=h.flatten/\y7 (λa s=>∃u,u.cells.toList=s/\a1p X a u) A h
 |[],as,us,fs,A,css,cells,C,D,t,l,G,K,p,f=>by
   have:=by simpa[g6q]using t
   subst this;exact⟨css,cells,rfl,G,f⟩|i::B,[],us,fs,A,css,cells,C,D,t,l,G,K,p,f=>by simp_all|i::B,a::as,[],fs,A,css,cells,C,D,t,l,G,K,p,f=>D.elim|i::B,a::as,u::us,fs,A,css,cells,C,D,t,l,G,K,p,f=>by
   simp [g6q]at t;split at t
   .rename_i b M;split at t
    .rename_i J;simp only[qB]at J;have V:=qC J.1;simp only[all_cons,qB]at C;have hul:=c49 C.1 (D.1.to0 C.1);let⟨s,r,hs2⟩:=f.get M;have T:s.length=asz b:=by
      have N:(fs.map asz)[i]?=some (asz b):=by rw[getElem?_map,M];rfl
      grind
     have q:u.cells.toList.length=s.length:=by omega
     have I:e9g F i=(css.take i).flatten.length:=by unfold e9g;rw[f8i,map_take,K]
     have Y:cells.size=css.flatten.length:=by rw[<-G];simp
     have Q:(css.take i).flatten.length+s.length<=css.flatten.length:=by
      have:=b3t css i s s r rfl;have N:=congrArg List.length this;have S:(css.set i s)=css:=by
       apply ext_getElem?;intro k;rw[getElem?_set];split;.rename_i R;subst R;have:=(qD.1 r);simp[this.1,this.2]
       .rfl
      rw[S]at N;have h4:(css.take i).flatten.length<=css.flatten.length:=by
       conv=>rhs;rw[<-take_append_drop i css,flatten_append,qL]
       omega
      simp only[qL,length_take,length_drop]at N;omega
     have L:u.cells.size=asz b:=by rw[<-T,<-q];simp
     let⟨h,e,W,N,S⟩:=d3l H B as us _ A _ (u.cells.zipIdx.foldl (λcs(c,j)=>cs.setIfInBounds (e9g F i+j) c) cells) C.2 D.2 t (by simpa using l) (by rw[(e6a _ _ _ (by omega)),b3t css i s _ r q,G,I]) (by rw[c82 css i s _ r q,K])
      (by rw[<-p];apply ext_getElem?;intro k;rw[getElem?_map,getElem?_set,getElem?_map];split;.rename_i R;subst R;rw[if_pos ((qD.1 M).1),M];simp[V]
          .rfl) (c22 i a _ f ⟨u,rfl,D.1⟩);refine⟨h,e,?_,N,S⟩;simp only[zip_cons_cons,Instr.fill,H i _ (by rw[<-p,getElem?_map,M];rfl),L];first|exact W|(rw[if_neg (by grind)];omega)
    simp_all
   simp_all
def c6p{c e:Type}{f:c->Sem e}{h:c->e}:∀{l:O c},(∀x∈l,(f x).run P w=.ok (h x) w)->(l.mapM f).run P w=.ok (l.map h) w:=by intro a;induction a<;>simp_all
def e0v{c e:Type}{f:c->Sem e}{i:c->e}{l:Array c}(h:∀x∈l.toList,(f x).run P w=.ok (i x) w):(l.mapM f).run P w=.ok (l.map i) w:=by rw[Array.mapM_eq_mapM_toList];simp[c6p h];apply Array.ext';simp
def d3x{c:U.C}{fs:O Field}(h:d4d P c fs=true):fs.length=(U.lay c).length/\∀i f,fs[i]?=some f->∃o,(U.lay c)[i]?=some o/\f.offset=off c i/\e54 P f.type (osz o)=true:=by unfold d4d at h;simp only[qB]at h;refine⟨(qC h.1),λi f j=>?_⟩;have e:=qX.1 h.2 i (by simpa using ((qD.1 j).1));rw[j]at e;cases k:(U.lay c)[i]?with|none=>grind|some o=>rw[k]at e;simp only[qB]at e;exact⟨o,rfl,qC e.1,e.2⟩
def d3w(l:O (Nat×Operand)):(l.toArray.map λ(i,x)=>(i,ev ρ x)).toList=(l.map (·.1)).zip ((l.map (·.2)).map (ev ρ)):=by grind
def e06{X:Cx}:∀{c:O U.AV}{css:O (O A5)},y7 (FV X) c css->css.map List.length=c.map asz|[],[],_=>rfl|a::c,s::css,h=>by simp [map_cons,h.1.1,e06 h.2]|[],_::_,h=>h.elim|_::_,[],h=>h.elim
def e6e(V:UOK U)(h:Rel E Z π σ ρ w){t:TypeId}{F:Array (Nat×Operand)}{as:O U.AV}(hx:y7 (AVR (cx Z π σ w)) as ((F.toList.map (·.2)).map (ev ρ)))(e:(f0r P t (F.toList.map (·.1)) as).Ev σ m0 m v ws):a48 P E σ ρ w ⟨d,.build t F,ty,ps,af,g⟩ v ws:=by
 unfold f0r at e;split at e;case h_2=>exact e.elim
 rename_i D c zv hu hc K;split at e;case h_2=>exact e.elim
 rename_i c' zs I;split at e;case h_2=>exact e.elim
 rename_i hfo;let⟨as',W,m1,e,_,M,_,Y⟩:=c6x V h hx e;split at e;case h_2=>exact e.elim
 rename_i gs S N;split at e;case h_2=>exact e.elim
 rename_i yv hmk;let⟨hm1,hv0,hws⟩:=e;subst hv0;rw[hws];have r:=b6t (b99 (qX.2 λa ha=>by have:=qX.1 S a ha;cases a<;>first|exact this|cases this)) (Y W M λq hq=>⟨hq,e64 hq⟩);unfold b7m at K;split at K;case h_2=>cases K
 rename_i ti hti;split at K;case h_2=>cases K
 rename_i z0 hz0;let⟨uz,huz,B⟩:=c13 V (X:=cx (Zf Z π σ W) π (σ.app none .unk W) w) _ _ _ _ K;have hzf:∃j,y7 (FV (cx (Zf Z π σ W) π (σ.app none .unk W) w)) zs j/\uz.cells.toList=j.flatten/\zs.map a07=U.lay c':=by
  cases zv<;>try(cases I;done)
  .cases I;obtain⟨cs,rfl,B⟩:=B;obtain⟨hl,j,rfl,k⟩:=a91.1 B;exact⟨j,c4g V k,by simp[Value.cells],V.lay _ _⟩
  .cases I;obtain⟨j,rfl,p,hpp,hr⟩:=B;exact⟨j,c7h hpp hr,by simp[Value.cells],p⟩
 let⟨j,k,hcs,p⟩:=hzf;let⟨hfl,L⟩:=d3x hfo;have T:zs.map asz=(U.lay c').map osz:=by rw[<-p,map_map];exact map_congr_left λa _=>(b0z a).symm
 have A:∀i n,((U.lay c').map osz)[i]?=some n->((D.map λf=>(f.offset,szT P f.type))[i]?)=some (e9g ((U.lay c').map osz) i,n):=by intro i n H;rw[getElem?_map]at H;cases ho:(U.lay c')[i]?with|none=>rw[ho]at H;cases H|some o=>
    rw[ho]at H;have hlt:i<D.toList.length:=by rw[hfl];exact(qD.1 ho).1
    let⟨o',R,h2,h3⟩:=L i _ (qG hlt);rw[ho]at R;cases R;have u:=a9m h3;simp only[Array.getElem?_map,Array.getElem?_eq_getElem (by omega),Option.map_some];have e1:D.toList[i]=D[i]:=by simp
    rw[e1]at h2 u;rw[h2];have e2:szT P D[i].type=osz o:=by unfold szT;cases l:P.info? _ with|none=>rw[l]at u;cases u|some q=>rw[l]at u;exact qH u
    rw[e2,(qH H)];unfold e9g off;rw[map_take]
 let⟨css',cells',G,C,J⟩:=d3l A _ as' _ zs gs j z0.cells S r N (by rw[y7.length r];simp) (by rw[<-huz];omega) (by rw[<-T];exact e06 k) T (k.mono λa s hh=>hh.2);refine g8 (h.freeze M) ?_ (AVR.of1 (by have h9:=e4a V hmk J;rw[<-C]at h9;omega));refine f0w rfl ?_;have Q:(D.mapM λf=>do pure (f.offset,<-sizeOf f.type):Sem _).run P w=.ok (D.map λf=>(f.offset,szT P f.type)) w:=by
  refine e0v λf hf=>?_;obtain⟨i,H,rfl⟩:=getElem_of_mem hf;let⟨o,_,_,h3⟩:=L i _ (qG H);have u:=a9m h3;have e2:szT P D.toList[i].type=osz o:=by unfold szT;cases l:P.info? _ with|none=>rw[l]at u;cases u|some q=>rw[l]at u;exact qH u
  rw[Sem.run_bind,b45 h3,<-e2];rfl
 have hzv:(zeroValue t).run P w=.ok z0 w:=by simp[zeroValue,typeInfo,hti,hz0]
 unfold Instr.build;rw[Sem.run_bind,hzv];simp only[Result.andThen_ok];rw[Sem.run_bind,b55 hu];simp only[Result.andThen_ok];rw[Sem.run_bind,Q];simp only[Result.andThen_ok,(d3w _)];rw[G];rfl
def f4t(m k:Nat):∀(i:Nat),i<=m->e9g (List.replicate m k) i=i*k:=by simp_all[e9g]
def e1q(F:UOK U)(h:Rel E Z π σ ρ w){t:TypeId}{D:Array (Nat×Operand)}{as:O U.AV}(hx:y7 (AVR (cx Z π σ w)) as ((D.toList.map (·.2)).map (ev ρ)))(f:(d9k P t (D.toList.map (·.1)) as).Ev σ m0 m v ws):a48 P E σ ρ w ⟨d,.build t D,ty,ps,af,g⟩ v ws:=by
 unfold d9k at f;split at f;case h_2=>exact f.elim
 rename_i c N G;split at f;case h_2=>exact f.elim
 rename_i l;let⟨R,fz,m1,f,_,H,_,L⟩:=c6x F h hx f;split at f;case h_2=>exact f.elim
 rename_i gs K I;split at f;case h_2=>exact f.elim
 rename_i yv hmk;let⟨hm1,hv0,S⟩:=f;subst hv0;rw[S];have p:=b6t (b99 (qX.2 λa ha=>by have:=qX.1 K a ha;cases a<;>first|exact this|cases this)) (L fz H λq hq=>⟨hq,e64 hq⟩);unfold b7m at G;split at G;case h_2=>cases G
 rename_i ti hti;split at G;case h_2=>cases G
 rename_i z0 Y;let⟨uz,T,A⟩:=c13 F (X:=cx (Zf Z π σ fz) π (σ.app none .unk fz) w) _ _ _ _ G;obtain⟨cs,rfl,A⟩:=A;obtain⟨hl,css,rfl,M⟩:=a91.1 A;unfold d14 at l;split at l;case h_2=>cases l
 rename_i n e hu;simp only[qB]at l;let⟨⟨hA,W⟩,he2⟩:=l;have o:=c4g F M;have J:(U.flds c N).map asz=List.replicate n (U.n (U.ae c)):=by rw[(F.arr c N hA).1,map_map,(qC W),<-(F.arr c N hA).2];apply ext_getElem?;intro k;rw[getElem?_map,getElem?_replicate];cases hk:(U.al c N)[k]?with|none=>have:=List.getElem?_eq_none_iff.1 hk;rw[if_neg (by omega)];rfl|some q=>have:=(qD.1 hk).1;rw[if_pos this];simp[(a1w F _ q).2.2]
 have u:∀i k,(List.replicate n (U.n (U.ae c)))[i]?=some k->(λi=>some (i*U.n (U.ae c),U.n (U.ae c))) i=some (e9g (List.replicate n (U.n (U.ae c))) i,k):=by
  intro i k Q;rw[getElem?_replicate]at Q;split at Q;.rename_i V;cases Q;rw[f4t n _ i (Nat.le_of_lt V)]
  .cases Q
 let⟨css',j,C,r,B⟩:=d3l u _ R _ _ gs css z0.cells K p I (by rw[y7.length p];simp) (by rw[<-T];simp[Value.cells]) (by rw[<-J];exact e06 o) J (o.mono λa s hh=>hh.2);refine g8 (h.freeze H) (v:=.agg j) ?_ (AVR.of1 ⟨j.toList,by simp,by rw[r];exact d1x F hmk B⟩);refine f0w rfl ?_;have hzv:(zeroValue t).run P w=.ok z0 w:=by simp[zeroValue,typeInfo,hti,Y]
 unfold Instr.build;rw[Sem.run_bind,hzv];simp only[Result.andThen_ok];rw[Sem.run_bind,b55 hu];simp only[Result.andThen_ok];rw[Sem.run_bind,b45 he2];simp only[Result.andThen_ok,(d3w _)];rw[C];rfl
def e45{X:Cx}{gg:TypeId->U.AV->U.AV->A3 Bool}{d:Nat}(Y:∀t a b r,gg t a b=some r->∀u v,a1p X a u->a1p X b v->(Op.equalIn d t u v).run P w=.ok r w):∀(fs:O Field)(o:Nat)(as i:O U.AV)(r:Bool)(pa j:O A5)(e c:O (O A5)),h1i P gg o fs as i=some r->pa.length=o->j.length=o->y7 (FV X) as e->y7 (FV X) i c->(Op.eqFields d (pa++e.flatten).toArray (j++c.flatten).toArray fs).run P w=.ok r w
 |[],o,as,i,r,pa,j,e,c,h,_,_,_,_=>by
   have K:r=true:=by cases as<;>cases i<;>first|(cases h;rfl)|cases h
   subst K;exact g44 rfl|f::fs,o,as,i,r,pa,j,e,c,h,k,n,H,Q=>by cases as with|nil=>cases h|cons a as=>cases i with|nil=>cases h|cons b i=>cases e with|nil=>exact H.elim|cons sa e=>cases c with|nil=>exact Q.elim|cons T c=>
           simp [h1i]at h;split at h;case h_2=>grind
           rename_i V;simp only[qB,bne_iff_ne,ne_eq]at V;let⟨hn,C,J,N,hp,hq,R⟩:=V;have C:=qC C;split at h;case h_2=>grind
           rename_i r1 M;split at h;case h_2=>grind
           rename_i q G;cases h;let⟨l,ua,L,s⟩:=H.1;let⟨A,ub,S,B⟩:=Q.1;have pt:∀{x:U.AV}{I F:O A5}{cx:O _}{D:A5},b33 P f.type x=true->a03 x=true->I.length=o->F.length=asz x->D.cells.toList=F->a1p X x D->(part f.type (I++(F::cx).flatten).toArray f.offset).run P w=.ok D w:=by
            intro x I F cx D hf p W hs hu K;refine e93 hf p (K.to0 p) ?_ ?_;.rw[C,<-W,drop_left,flatten_cons,<-hs,take_left,hu]
            .rw[C];simp[W,hs]
           refine f8g ?_ (pt J hp k l L s) (pt N hq n A S B) (Y _ _ _ _ M _ _ s B) ?_
           .have:=by simpa using hn
            simp[this]
           .have e1:pa++(sa::e).flatten=(pa++sa)++e.flatten:=by simp
            have e2:j++(T::c).flatten=(j++T)++c.flatten:=by simp
            rw[e1,e2];exact e45 Y fs _ as i q _ _ e c G (by simp[k,l]) (by simp[n,A,(qC R)]) H.2 Q.2
def e7w(J:UOK U){X:Cx}:∀(n:Nat)(t:TypeId)(a b:U.AV)(r:Bool),eqA P n t a b=some r->∀(u v:A5)(d:Nat),a1p X a u->a1p X b v->(Op.equalIn (d+n) t u v).run P w=.ok r w
 |0,_,_,_,_,h,_,_,_,_,_=>by cases h|n+1,t,a,b,r,h,u,v,d,s,q=>by
   simp [eqA]at h;split at h
   .split at h
    .rename_i k x k' y kk o I;cases h;unfold eqK at I;split at I;.rename_i R _;subst R;have f:=s;have j:=q;rw[f,j];exact run_equalIn_int w _ _ _ _ _ _ o
     grind
    grind
   .split at h;.rename_i o;cases h;have f:=s;have j:=q;rw[f,j];exact run_equalIn_bool' w _ _ _ _ o
    grind
   .split at h;.rename_i o;cases h;have f:=s;have j:=q;rw[f,j];exact run_equalIn_string w _ _ _ _ o
    grind
   .split at h;case h_2=>grind
    rename_i ca S cb T C A;split at h;case h_2=>grind
    rename_i N o F;have i:∀{x:U.AV}{c:U.C}{D:O _}{G:A5},f7q x=some (c,D)->a1p X x G->∃e,G=.agg e.flatten.toArray/\y7 (FV X) D e:=by
     intro x c D G B l;cases x<;>try(cases B;done)
     .cases B;let⟨cs,f,l⟩:=l;let⟨_,e,L,p⟩:=a91.1 l;exact⟨e,by grind,c4g J p⟩
     .cases B;let⟨e,f,_,K,l⟩:=l;exact⟨e,f,c7h K l⟩
    let⟨M,f,V⟩:=i C s;let⟨Y,j,Q⟩:=i A q;have H:P.fieldsOf t=N:=by simp[Program.fieldsOf,o]
    rw[f,j,show d+(n+1)=(d+n)+1from rfl,run_equalIn_agg w _ t _ _ (by grind) F,H];have:=e45 (λt a b r l u v f j=>e7w J n t a b r l u v d f j) _ 0 S T r [] [] M Y h rfl rfl V Q;simpa using this
def f3p(G:UOK U)(h:Rel E Z π σ ρ w){op:BinOp}{t I:TypeId}(p:(b0p a&&b0p b)=true)(F:AVR (cx Z π σ w) a (ev ρ x))(H:AVR (cx Z π σ w) b (ev ρ y))(c:(h3e P op t a b).Ev σ m0 m v ws):a48 P E σ ρ w ⟨d,.binOp op t x y I,ty,ps,af,g⟩ v ws:=by
 simp [qB]at p;have k:∀{q:U.AV}{n:A5},b0p q=true->AVR (cx Z π σ w) q n->a1p (cx Z π σ w) q n/\∃A,n=.agg A:=by
  intro q n C j;cases q<;>try(cases C)
  .let⟨D,l,j⟩:=j;exact⟨⟨D,l,j⟩,_,l⟩
  .let⟨u,l,j⟩:=j;exact⟨⟨u,l,j⟩,_,l⟩
 let⟨o,A,f⟩:=k p.1 F;let⟨s,K,i⟩:=k p.2 H;unfold h3e at c;split at c;case h_2=>exact c.elim
 rename_i r B J;have e:=e7w G (w:=w) 100 t a b r J _ _ 9900 o s;rw[f,i]at e;split at c;.obtain⟨_,rfl,rfl⟩:=c;exact g8 h (h3y f i B e rfl) rfl
 .obtain⟨_,rfl,rfl⟩:=c;exact g8 h (h42 f i B e rfl) rfl
 .exact c.elim
end
section
variable {P:Program} {U:Uni} {E:Env} {Z:Nat -> Prop} {π:Nat -> A5} {σ:U.St} {ρ:Nat -> A5} {w:World}
variable {d:A3 Tmp} {ty:TypeId} {ps:String} {af:Array Edge} {g:A3 (Nat×Bool)} {x y z:Operand} {m0 m:Nat} {a b v:U.AV} {ws:O (Nat×U.MC)} {fr:Nat}
def d1d{n:Nat}(hn:0<n):∀(vs:O A5)(k:Nat),(∀v∈vs,v.cells.size=n)->(vs.flatMap λv=>v.cells.toList)[k]?=(vs[k/n]?).bind λv=>v.cells[k%n]?
 |[],k,_=>by simp|v::vs,k,h=>by
   have l:=h v (by simp);rw[flatMap_cons,getElem?_append];have e:v.cells.toList.length=n:=by omega
   by_cases c:k<n;.rw[if_pos (by omega),Nat.div_eq_of_lt c,Nat.mod_eq_of_lt c];simp
   .rw[if_neg (by omega),e,(d1d hn vs _ λu j=>h u (by grind))];have i:k/n=(k-n)/n+1:=by rw[Nat.div_eq_sub_div hn (by omega)]
    rw[i,getElem?_cons_succ,((Nat.mod_eq_sub_mod (by omega)).symm)]
def d6n:∀(c:O Nat)(k:Nat)(us:O A5),d48 k c=true->c.length=us.length->c.zip us=(us.zipIdx k).map λx=>(x.2,x.1)|[],k,[],_,_=>rfl|i::c,k,u::us,h,e=>by simp only[d48,qB]at h;have:=qC h.1;subst this;simp[d6n c _ us h.2 (by simp_all)]|[],_,_::_,_,e=>by simp_all|_::_,_,[],_,e=>by simp_all
def e3x(i:UOK U){X:Cx}{c:U.C}:∀{as:O U.AV}{us:O A5}{l:O (U.T c)},h1u c as=some l->y7 (a1p X) as us->y7 (λu x=>(Rp c).rep X.G X.w u.cells.toList x) us l
 |[],[],l,h,_=>by cases h;trivial|a::as,u::us,l,h,f=>by
   simp [h1u]at h;split at h
   .rename_i p k;split at h;.rename_i o j;cases h;exact⟨b85 i k f.1,e3x i j f.2⟩
    grind
   grind|[],_::_,_,_,e=>e.elim|_::_,[],_,_,e=>e.elim
def g3u{G:Nat->Prop}{w:World}{c:U.C}:∀(us:O A5)(l:O (U.T c)),y7 (λu x=>(Rp c).rep G w u.cells.toList x) us l->O (Raw (U.n c))|[],[],_=>[]|u::us,x::l,h=>d0s h.1::g3u us l h.2|[],_::_,h=>h.elim|_::_,[],h=>h.elim
def d61{G:Nat->Prop}{w:World}{c:U.C}:∀(us:O A5)(l:O (U.T c))(h:y7 (λu x=>(Rp c).rep G w u.cells.toList x) us l),(g3u us l h).flatMap Subtype.val=us.flatMap (λv=>v.cells.toList)/\y7 (λ(r:Raw (U.n c))x=>(Rp c).rep G w r.1 x) (g3u us l h) l/\(g3u us l h).length=us.length|[],[],_=>⟨rfl,trivial,rfl⟩|u::us,x::l,h=>by let⟨j,i,f⟩:=d61 us l h.2;exact⟨by simp[g3u,j,d0s],⟨h.1,i⟩,by simp[g3u,f]⟩|[],_::_,h=>h.elim|_::_,[],h=>h.elim
def b28{fr:Nat}{k:U.Q}(c:(Q.rdM fr λ|.never=>k|_=>(.fail:U.Q)).Ev σ m0 m v ws):σ.mem fr=.never/\∃e,k.Ev σ e m v ws:=by
 have c:(match σ.mem fr with|.never=>k|_=>(.fail)).Ev σ _ m v ws:=c;split at c;.grind
 .exact c.elim
def f2y{f:O (Nat×U.MC)}(i:FZ σ f)(hn:σ.mem fr=.never):(σ.app none .unk f).mem fr=.never:=by rw[o8];cases h:lk fr f with|none=>omega|some m=>let⟨e,c,l,j,_⟩:=e6i i h;grind
def c1w{e n:Nat}(h:d81 P e n=true):∃c f,P.info? e=some c/\c.zero=some f/\f.cells.size=n/\c.size=n/\0<n/\0<c.bytes:=by
 unfold d81 at h;split at h;.split at h;all_goals simp_all
 grind
def d09(hU:UOK U)(h:Rel E Z π σ ρ w){t:TypeId}{len:Nat}{p:Array (Nat×Operand)}{as:O U.AV}(hx:y7 (AVR (cx Z π σ w)) as ((p.toList.map (·.2)).map (ev ρ)))(o:(c3r P fr t len (p.toList.map (·.1)) as).Ev σ m0 m v ws):a48 P E σ ρ w ⟨d,.buildSlice t len p,ty,ps,af,g⟩ v ws:=by
 unfold c3r at o;split at o;case h_2=>exact o.elim
 rename_i e hu;split at o;case h_2=>exact o.elim
 rename_i c hc;split at o;case h_2=>exact o.elim
 rename_i K;let⟨as',fz,m1,o,_,G,_,B⟩:=c6x hU h hx o;have B:=B fz G λq hq=>⟨hq,e64 hq⟩;split at o;case h_2=>exact o.elim
 rename_i l hpl hpr;let⟨hn,m2,hm1,hv0,hws⟩:=b28 o;subst hv0;rw[hws];simp only[qB]at K;let⟨⟨⟨⟨⟨⟨h1,R⟩,h3⟩,h4⟩,h5⟩,h6⟩,h7⟩:=K;have R:=qC R;have h5:=qW h5;have h6:=qW h6;let⟨e',he1,he2,he3,F⟩:=b1m h4;have H:=e3x hU hpr (b6t (b99 hpl) B);let⟨g1,g2,g3⟩:=d61 _ _ H;have J:∀v∈(p.toList.map (·.2)).map (ev ρ),v.cells.size=U.n c:=by intro v hv;obtain⟨i,hi,rfl⟩:=getElem_of_mem hv;let⟨xv,_,W⟩:=H.get (qG hi);have:=(Rp c).len W;rw[Rp_n]at this;omega
 have A:((p.toList.map (·.2)).map (ev ρ)).length=len:=by rw[<-R];simp
 have T:(p.map λ(i,x)=>(i,ev ρ x)).toList=(((p.toList.map (·.2)).map (ev ρ)).zipIdx 0).map λx=>(x.2,x.1):=by
  rw[d3w,d6n _ 0 _ h1 (by omega)]
 let⟨u,I⟩:∃u,u=g3u _ _ H:=⟨_,rfl⟩;rw[<-I]at g1 g2 g3;have M:∃n:Array A5,n.toList=u.flatMap Subtype.val/\(Instr.buildSlice t len (p.map λ(i,x)=>(i,ev ρ x))).run P w=.ok (.slice (some ⟨w.heap.size,0,none⟩) len len) (w.alloc (.cells n e)):=by
  let⟨N,L,Q,hz,hzs,s,_,_⟩:=c1w h7;have D:((Array.range (len*N.size)).map (L.cells[.%L.cells.size]!)).size=len*N.size:=by simp
  let⟨r,hr,hrs,Y⟩:=Great.fill_dense F _ 0 ((Array.range (len*N.size)).map (L.cells[.%L.cells.size]!)) J (by rw[D,A,s,Nat.zero_add];omega);refine⟨r,?_,?_⟩;case refine_2=>
   by_cases C:len*N.size=0
   .have V:len=0:=by rcases Nat.mul_eq_zero.1 C with h0|h0;all_goals omega
    subst V;have hnil:=by have:=R;rw[List.length_map]at this;exact List.length_eq_zero_iff.1 this
    have hps:p=#[]:=by rw[<-Array.toList_eq_nil_iff];omega
    subst hps;have hr0:=by have:=hrs;rw[D,Nat.zero_mul]at this;exact Array.eq_empty_of_size_eq_zero this
    subst hr0;simp[Instr.buildSlice,run_underlying hu,sizeOf,typeInfo,zeroValue,Q,hz,newRow,Instr.fill];rw[show∀f,Array.map f _=#[]fromλf=>Array.eq_empty_of_size_eq_zero (by simp)]
   .exact run_buildSlice w t e len _ r N L hu Q hz (by rw[s];omega) C (by rw[T,s];rw[s]at hr;omega)
  apply ext_getElem?;intro k;rw[Array.getElem?_toList,Y k,g1,d1d F _ _ J,A];simp only[Nat.zero_mul,Nat.zero_add,Nat.zero_le,true_and,Nat.sub_zero];split;.rfl
  .rw[Array.getElem?_eq_none (by rw[D,s];omega)];have:((p.toList.map (·.2)).map (ev ρ))[k/U.n c]?=none:=by apply getElem?_eq_none;rw[A];exact(Nat.le_div_iff_mul_le F).2 (by omega)
   rw[this];rfl
 let⟨n,hc1,S⟩:=M;refine b1u (h.freeze G) (obj:=.cells n e) (v':=.slice (some ⟨w.heap.size,0,none⟩) len len) (f2y G hn) (by simp[execOp,S]) (λh=>by cases h) rfl rfl (λb hb=>hb) ?_;rintro X' hle hw hZ;refine⟨u,?_,g2.mono λr xv hh=>c42 hle hh⟩;have X:n=(u.flatMap Subtype.val).toArray:=by rw[<-hc1]
 have hM:Mb (w.alloc (.cells n e)) w.heap.size e (u.flatMap Subtype.val):=by rw[X];exact Mb.alloc w e _
 rw[hw];exact hM.own (Nat.zero_le _) (by omega) (by unfold maxLen;omega) (λr=>r.2.1)
end
section
variable {P:Program} {U:Uni} {E:Env} {Z:Nat -> Prop} {π:Nat -> A5} {σ:U.St} {ρ:Nat -> A5} {w:World}
variable {d:A3 Tmp} {ty:TypeId} {ps:String} {af:Array Edge} {g:A3 (Nat×Bool)} {x y z:Operand} {m0 m:Nat} {a b v:U.AV} {ws:O (Nat×U.MC)} {fr:Nat}
def e5b(X:Cx){c:U.C}(u:A5)(l:O (U.T c)):Prop:=∃(e:O (Raw (U.n c))),(∃G,k9 (RAW (U.n c)) G X.w u e)/\y7 (λ(r:Raw (U.n c))x=>(Rp c).rep X.G X.w r.1 x) e l
def d2u{X:Cx}{c:U.C}{u:A5}{l:O (U.T c)}(h:k9 (Rp c) X.G X.w u l):e5b X u l:=by let⟨e,i,f⟩:=f2w h;exact⟨e,⟨_,i⟩,f⟩
def e72{X:Cx}{e:TypeId}{c:U.C}{u:A5}{l:O (U.T c)}(h:MR X (.sl e c l) u):e5b X u l:=by let⟨f,i,j⟩:=h;exact⟨f,⟨noG,i.rep λ_ _ h=>h⟩,j⟩
def f0a{w:World}{a:Addr}{v:A5}(h:w.cell? a=some v):a.block<w.heap.size:=by grind[World.cell?]
def e2d(f:UOK U){G:Nat->Prop}{c:U.C}{x:U.T c}{cs:O A5}(h:e8 Rp G w (inj c x) cs):(Rp c).rep G w cs x:=by unfold inj at h;cases e:U.ag c with|true=>rw[e]at h;exact h|false=>rw[e]at h;have j:=f.lay c x;rw[f.sc c e]at j;cases i:U.flds c x with|nil=>simp_all|cons a r=>cases r with|nil=>rw[i]at h;have:=c96 f (css:=[cs]) (by rw[i];exact⟨h,trivial⟩);simp_all|cons b r=>simp_all
def f9y{G:Nat->Prop}{c:U.C}{a:Addr}:∀(l:O (U.T c))(k:Nat),(∀i x,l[i]?=some x->∃cs,(Rp c).rep G w cs x/\CA w (a.add ((k+i)*U.n c)) cs)->∃css:O (Raw (U.n c)),css.length=l.length/\y7 (λ(r:Raw (U.n c))x=>(Rp c).rep G w r.1 x) css l/\∀i r,css[i]?=some r->CA w (a.add ((k+i)*U.n c)) r.1
 |[],k,_=>⟨[],rfl,trivial,λi r h=>by grind⟩|y::l,k,f=>by
   let⟨cs,j,n⟩:=f 0 y rfl;obtain⟨css,t,q,o⟩:=f9y l _ λi x s=>by have:=f (i+1) x (by simp_all);rwa[show k+(i+1)=k+1+i by omega]at this
   refine⟨d0s j::css,by grind,⟨j,q⟩,λi r e=>?_⟩;cases i with|zero=>simp at e;subst e;exact n|succ i=>have:=o i r (by simpa using e);rwa[show k+1+i=k+(i+1)by omega]at this
def g04(F:UOK U)(h:Rel E Z π σ ρ w){c:U.C}{k:O (U.T c)->U.Q}{u:A5}(B:AVR (cx Z π σ w) a u)(f:(rdL c a k).Ev σ m0 m v ws):∃l A,(k l).Ev σ A m v ws/\e5b (cx Z π σ w) u l:=by
 have q:∀{s:U.C}{C:O (U.T s)}{A:Nat},(match b8i c C with|some l=>k l|none=>(.fail)).Ev σ A m v ws->e5b (cx Z π σ w) u C->∃l A,(k l).Ev σ A m v ws/\e5b (cx Z π σ w) u l:=by
  intro s C A f hr;split at f;.rename_i l R;let⟨he,B⟩:=a3i (G:=noG) (w:=w) R;grind
  .exact f.elim
 unfold rdL at f;split at f;.exact q f (d2u B)
 .exact⟨[],_,f,[],⟨noG,.inl ⟨B,rfl⟩⟩,trivial⟩
 .rename_i N;have I:=h.mem N;have f:(match σ.mem N with|.sl _ _ l=>(match b8i c l with|some l=>k l|none=>.fail)|.fz _ l=>(match b8i c l with|some l=>k l|none=>.fail)|_=>(.fail)).Ev σ _ m v ws:=f;split at f;.rename_i e s C o;rw[o]at I;exact q f (by rw[B.2.1];exact e72 I)
  .rename_i s C o;rw[o]at I;exact q f (by rw[B.2.1];exact d2u I)
  .exact f.elim
 .rename_i N s p n;have f:(match c18 s _ p with|true=>g1o _ p _|false=>(.fail)).Ev σ _ m v ws:=f;let⟨hus,Q,J,V,hv⟩:=B;split at f;case h_2=>exact f.elim
  rename_i Y;let⟨b,f,t⟩:=e2m F h (.inr Y) V f;split at f;case h_2=>exact f.elim
  rename_i D z;split at f;case h_2=>exact f.elim
  rename_i l j R;simp only[qB]at j;let⟨he,M⟩:=a3i (G:=noG) (w:=w) R;subst he;subst M;refine⟨_,_,f,?_⟩;have S:(U.al D z).length=n:=by rw[(F.arr D z j.1.1.1).2];exact(qC j.1.1.2).symm
  have hn6:=qW j.1.2;have hpos:=qW j.2;let⟨u,hA,X⟩:=(t Q J);have K:∀i(y:U.T _),(U.al D z)[i]?=some y->∃H,(Rp _).rep (cx Z π σ w).G w H y/\CA w ((Q.add (d2l s p)).add (i*U.n (U.ae D))) H:=by
   intro i y hy;have hg:c7 (U.al D z) (i)=some y:=by unfold c7;rw[if_pos (by omega),Int.toNat_natCast];omega
   let⟨u2,h2,h3⟩:=d3n F j.1.1.1 hA X hg;refine⟨u2.cells.toList,e2d F (b4w (.inl (a1w F _ _).1) h2),?_⟩;exact h3
  obtain⟨css,g1,g2,g3⟩:=f9y _ 0 λi y hy=>by let⟨H,q1,q2⟩:=K i y hy;exact⟨H,q1,by rw[Nat.zero_add];omega⟩
  refine⟨css,⟨noG,.inr ⟨Q.add _,n,by rw[g1,S];omega,by omega,by unfold maxLen;omega,λi r hr=>?_⟩⟩,g2⟩;have L:=g3 i r hr;rw[Nat.zero_add]at L;exact⟨r.1,rfl,(by have W:∃v,r.1[0]?=some v:=⟨r.1[0]'(by omega),qG _⟩;let⟨v0,T⟩:=W;have:=f0a (L 0 v0 T);rwa[a2h,a2h]at this),λh=>h,L⟩
 .exact f.elim
def d9z(A:UOK U){X:Cx}{c:U.C}(N:U.b8 c=true){u:A5}{l:O (U.T c)}(h:e5b X u l):∃G,k9 u8R G X.w u (l.map (U.t8 c)):=by
 let⟨B,⟨G,V⟩,F⟩:=h;have J:=F.length;rcases V with⟨S,hn⟩|⟨a,q,hv,hc,hm,K⟩;.cases l with|nil=>exact⟨G,.inl ⟨S,rfl⟩⟩|cons _ _=>simp_all
 .refine⟨G,.inr ⟨a,q,by grind,by grind,hm,λi x C=>?_⟩⟩;rw[getElem?_map]at C;obtain⟨y,Y,rfl⟩:=Option.map_eq_some_iff.1 C;have s:i<B.length:=by grind
  have p:=qG s;let⟨y',j,d,D⟩:=F.get p;rw[Y]at j;cases j;let⟨R,r,W,T,o⟩:=K i _ p;cases d with|zero=>exact D.elim|succ d=>
    let⟨_,Q,L,f⟩:=D;have H:=A.by8 c y N;rw[H]at f;match Q,f with
    |[k],⟨t,_⟩=>
      subst t;refine⟨[.int .u8 _],rfl,W,T,?_⟩;have e:R=[.int .u8 (U.t8 c y)]:=by rw[r,L];rfl
      rw[e]at o;have M:(RAW (U.n c)).n=u8R.n:=(by have I:=A.lay c y;rw[H]at I;rw[A.sum c,<-I];rfl);rw[M]at o;omega|[],f=>exact f.elim|_::_::_,⟨_,f⟩=>exact f.elim
def f3o(k:UOK U)(h:Rel E Z π σ ρ w){s t:TypeId}(o:g38 P s t=true)(A:AVR (cx Z π σ w) a (ev ρ x))(f:(h2h P s a).Ev σ m0 m v ws):a48 P E σ ρ w ⟨d,.convert s t x,ty,ps,af,g⟩ v ws:=by
 unfold g38 at o;split at o;case h_2=>grind
 rename_i H C u;unfold h2h at f;split at f;case h_2=>grind
 rename_i e j;split at f;case h_2=>exact f.elim
 rename_i c B p;split at f;case h_2=>exact f.elim
 rename_i q;obtain⟨l,D,⟨F,rfl,rfl⟩,i⟩:=g04 k h A f;let⟨G,r⟩:=d9z k q i;exact g8 h (h2g rfl (λa n c w=>run_convert_bytes_string w s t e a n c j B u) r) rfl
def e5m(h:Rel E Z π σ ρ w){t:TypeId}(C:AVR (cx Z π σ w) a (ev ρ x))(c:(e9h P fr t a).Ev σ m0 m v ws):a48 P E σ ρ w ⟨d,.range t x,ty,ps,af,g⟩ v ws:=by
 unfold e9h at c;split at c;case h_3=>exact c.elim
 case h_2 i=>
  split at c;case h_2=>exact c.elim
  rename_i A;have c:(match σ.mem i with|.mp []=>(.done .mi _:U.Q)|_=>.fail).Ev σ _ m v ws:=c;split at c;case h_2=>exact c.elim
  rename_i p;obtain⟨_,rfl,rfl⟩:=c;have D:=h.mem i;rw[p]at D;let⟨l,I,_,f⟩:=D;have F:ev ρ x=.map (some l):=by rw[C.2.1];exact I
  unfold f9p at A;split at A;case h_2=>grind
  rename_i k e H;have r:MB (σ.mem i) (π i) l:=by rw[p,I];rfl
  have B:=(h.own i l r).2.1;have K:(execOp (ev ρ) ⟨d,.range t x,ty,ps,af,g⟩).run P w=.ok (.value (.pointer (some ⟨w.heap.size,0,none⟩))) (w.alloc (.mapIter (some l) 0 #[] 0)):=by
   have G:w.heap[l]?=some (.map #[] 0):=f;have N:(getObj l).run P w=.ok (.map #[] 0) w:=by simp[getObj,Sem.run,G]
   simp[execOp,F,Instr.range,run_underlying H,N,Result.andThen]
  unfold a48 a0k;rw[K];have o:∀{j:Nat}{q:U.MC},lk j [(i,(.dead))]=some q->j=i/\q=.dead:=by intro j q n;have n:(bif Nat.beq i j then some _ else none)=some q:=n;cases M:Nat.beq i j with|true=>simp_all|false=>simp_all
  refine⟨λb=>Z b\/b=w.heap.size\/b=l,π,h.next ((Ext.alloc noG w _).mono λ_ L=>L.elim) (λb f=>.inl f) (λb f=>?_) (λ_ _=>rfl) (λj q n=>by rw[(o n).2];intro e;cases e) (λj q n=>by rw[(o n).2];trivial) (λj q b n f=>by rw[(o n).2]at f;exact f.elim) (λj S q Q b _ n _ f=>by rw[(o n).2]at f;exact f.elim) ?_⟩
  .rcases f with f|rfl|rfl;.exact .inl f
   .exact .inr (.inl ⟨Nat.le_refl _,by simp⟩)
   .exact .inr (.inr ⟨i,.dead,(by show(bif Nat.beq i i then some _ else _)=_;rw[show Nat.beq i i=true from Nat.beq_refl i];rfl),r⟩)
  .refine⟨w.heap.size,l,0,0,rfl,⟨by simp[cx],λu=>u (.inr (.inl rfl))⟩,⟨by show l<(w.alloc _).heap.size;simp;omega,λu=>u (.inr (.inr rfl))⟩,?_,?_⟩;.show(w.heap.push _)[w.heap.size]?=_;simp
   .show(w.heap.push _)[l]?=_;rw[Array.getElem?_push_lt B];rw[<-f];exact(Array.getElem?_eq_getElem B).symm
 rename_i s;split at c;case h_2=>exact c.elim
 rename_i A;obtain⟨u,R,D,rfl,rfl⟩:=b28 c;unfold f5z at A;split at A;case h_2=>grind
 rename_i H;have C:ev ρ x=.string s:=C;refine b1u h (obj:=.stringIter s 0) (v':=.pointer (some ⟨w.heap.size,0,none⟩)) u ?_ (λh=>by grind) rfl rfl (λb f=>f) ?_;.simp[execOp,C,e6q H,Result.andThen]
 .intro T _ J _;exact⟨w.heap.size,rfl,Int.le_refl 0,by rw[J];show(w.heap.push _)[w.heap.size]?=_;simp⟩
def e66(h:Rel E Z π σ ρ w)(o:AVR (cx Z π σ w) a (ev ρ x))(e:(f0b a:U.Q).Ev σ m0 m v ws):a48 P E σ ρ w ⟨d,.next x false,ty,ps,af,g⟩ v ws:=by
 unfold f0b at e;split at e;case h_2=>exact e.elim
 obtain⟨_,rfl,rfl⟩:=e;let⟨b,f,s,c,n,_,_,j,i⟩:=o;have j:w.heap[b]?=some _:=j;have l:(getObj b).run P w=.ok (.mapIter (some f) s #[] c) w:=by simp[getObj,Sem.run,j]
 have k:(getObj f).run P w=.ok (.map #[] 0) w:=by have i:w.heap[f]?=some (.map #[] 0):=i;simp[getObj,Sem.run,i]
 refine g8 h ?_ ⟨[.bool _],rfl,rfl,trivial⟩;show(execOp _ _).run P w=_;simp[execOp,n,Instr.next,l,k,choose,Sem.run,Question.forced,Question.cut,Result.andThen]
def f2t(h:Rel E Z π σ ρ w)(L:AVR (cx Z π σ w) a (ev ρ x))(f:(g5i a:U.Q).Ev σ m0 m v ws):a48 P E σ ρ w ⟨d,.next x true,ty,ps,af,g⟩ v ws:=by
 unfold g5i at f;split at f;case h_2=>exact f.elim
 rename_i t;have f:(match σ.mem t with|.it s p=>(.cas _ _ _:U.Q)|_=>.fail).Ev σ _ m v ws:=f;split at f;case h_2=>exact f.elim
 rename_i s p i;have o:=h.mem t;rw[i]at o;let⟨b,G,K,N⟩:=o;have D:ev ρ x=.pointer (some ⟨b,0,none⟩):=by rw[L.2.1];exact G
 have n:∀{c C:Int}{u:U.AV},f1z s p=some c->e6m s p=C->(∀j,AVR j u (nxV (decide (p<(s.size))) p c))->a48 P E σ ρ w ⟨d,.next x true,ty,ps,af,g⟩ u [(t,.it s C)]:=by
  intro c C u H q M;let⟨J,B,R,F⟩:=f2e (P:=P) (ty:=ty) ⟨K,N⟩ H;have B:(Instr.next _ _ ty).run P w=.ok _ J:=B;have l:(execOp (ev ρ) ⟨d,.next x true,ty,ps,af,g⟩).run P w=.ok (.value (nxV (decide (p<(s.size))) p c)) J:=by simp[execOp,D,B,Result.andThen]
  unfold a48 a0k;rw[l];refine⟨Z,π,h.set (λI=>by simp_all) (λI=>by cases I) (R.mono λy A=>?_) (λj _ Q=>?_) (λy A=>?_) λj _=>M j⟩;.rw[i,G,A];rfl
  .rw[q]at F;exact⟨b,G,F.1,by rw[Q];exact F.2⟩
  .rw[i];exact A
 rcases f with⟨e,o,rfl,rfl⟩|⟨r,e,f⟩
 .unfold e6l at e;split at e;.cases e
  .rename_i k;exact n (by unfold f1z;rw[if_neg k]) (by unfold e6m;omega) λj=>by rw[decide_eq_false k];exact⟨[.bool _],rfl,rfl,trivial⟩
 .obtain⟨c,H,o,rfl,rfl⟩:=f;unfold e6l at e;split at e;.rename_i k;have e:=qH e;rw[H]at e;exact n (by unfold f1z;rw[if_pos k];omega) (by unfold e6m;omega) λj=>by rw[decide_eq_true k];exact⟨[.bool _,.int _ p,.int _ c],rfl,rfl,rfl,rfl,trivial⟩
  .cases e
def a87{e j:Type}{p:e->j->Prop}:∀{l i:O e}{r f:O j},y7 p l r->y7 p i f->y7 p (l++i) (r++f)|[],_,[],_,_,h=>h|_::_,_,_::_,_,h,n=>⟨h.1,a87 h.2 n⟩|[],_,_::_,_,c,_=>c.elim|_::_,_,[],_,c,_=>c.elim
def d8n(hU:UOK U)(h:Rel E Z π σ ρ w){t e:TypeId}{c:U.C}{dead:O Nat}{l:O (U.T c)}(hu:P.underlying t=some (.slice e))(M:d81 P e (U.n c)=true)(hs:MR (cx Z π σ w) (.sl e c l) (ev ρ x))(f:∀b,(ev ρ x).ownBlock=some b->∃id∈dead,MB (σ.mem id) (π id) b)(hy:AVR (cx Z π σ w) b (ev ρ y))(i:(h1q P fr e c (dead.map λid=>(id,.dead)) l b).Ev σ m0 m v ws):a48 P E σ ρ w ⟨d,.call ⟨.builtin .append,#[x,y],#[t,t]⟩,ty,ps,af,g⟩ v ws:=by
 let⟨xs,m1,i,T,⟨G,hR⟩,C⟩:=g04 hU h hy i;let⟨r,hr,i⟩:=i;let⟨hn,m2,hm1,X,J⟩:=b28 i;subst X;rw[J];let⟨Y,hO,A⟩:=hs;let⟨ie,zv,s,hz,V,o,F,L⟩:=c1w M;let⟨D,Q⟩:=e8h hr;have W:d2w P e=ie.bytes:=by unfold d2w;rw[s]
 let⟨K,w',p,k,hE,n⟩:=d1y (ty:=ty) _ (λr=>r.2.2) hu (by rw[s];simp[hz,V,o]) F L hO ⟨G,hR⟩ (by rw[A.length,C.length,<-W];omega) (by omega);unfold a48 a0k;have R:(execOp (ev ρ) ⟨d,.call ⟨.builtin .append,#[x,y],#[t,t]⟩,ty,ps,af,g⟩).run P w=.ok (.value K) w':=by have j:(Builtin.append_ _ ty _).run P w=.ok K w':=p;simp[execOp,resolve,invoke,builtin,j]
 rw[R];refine⟨Z,c0j π fr K,?_⟩;refine h.new hn (λh=>by cases h) (hE.mono f) ?_ (λq hq=>?_) ?_;.rintro X' u hw hZ;refine⟨Y++T,by rw[hw];omega,?_⟩;rw[<-Q];exact a87 (A.mono λ_ _ N=>c42 u N) (C.mono λ_ _ N=>c42 u N)
 .let⟨ad,S,I,_⟩:=k.shape;have B:=(a95 I).2 hq;refine⟨(k.lt B).2,?_⟩;rcases n q B with H|H;.exact .inr (f q H)
  .exact .inl H
 .let⟨ad,S,I,_⟩:=k.shape;rw[I];rfl
def f6j(B:UOK U)(h:Rel E Z π σ ρ w){t:TypeId}(o:AVR (cx Z π σ w) a (ev ρ x))(u:AVR (cx Z π σ w) b (ev ρ y))(f:(h35 P fr t a b).Ev σ m0 m v ws):a48 P E σ ρ w ⟨d,.call ⟨.builtin .append,#[x,y],#[t,t]⟩,ty,ps,af,g⟩ v ws:=by
 unfold h35 at f;split at f;case h_2=>exact f.elim
 rename_i e A;split at f;case h_2=>exact f.elim
 rename_i c M;split at f;case h_2=>exact f.elim
 rename_i n;split at f
 .refine d8n (dead:=[]) (l:=[]) B h A n ⟨[],?_,trivial⟩ (λb j=>?_) u f;.rw[show ev ρ x=.slice _ 0 0from o];simp_all[Own.nil]
  .rw[show ev ρ x=.slice _ 0 0from o]at j;cases j
 .rename_i p;split at f;.exact f.elim
  .have q:=h.mem p;have f:(match σ.mem p with|.sl C s l=>(match Nat.beq e C&&eqC s c,b8i c l with|true,some l=>h1q P fr e c _ l b|_,_=>(.fail))|_=>(.fail)).Ev σ _ m v ws:=f;split at f
   .rename_i C s Q i;split at f;.rename_i l k F;simp only[qB]at k;have K:=qC k.1;let⟨L,r⟩:=a3i (G:=noG) (w:=w) F;subst L;subst r;subst K;rw[i]at q;refine d8n (dead:=[p]) B h A n (by rw[o.2.1];exact q) (λb j=>⟨p,by simp,?_⟩) u f;rw[o.2.1]at j;rw[i];let⟨D,J,_⟩:=q;let⟨N,I,H,_⟩:=J.shape;exact(a95 H).1 j
    .exact f.elim
   .exact f.elim
 .exact f.elim
def b1t(h:Rel E Z π σ ρ w){o:A3 Operand}{d:Int}{k:Int->U.Q}(c:(bnd o d k).Ev σ m0 m v ws):∃n e,(k n).Ev σ e m v ws/\((o.map (ev ρ)=none/\n=d)\/o.map (ev ρ)=some (.int .i64 n)):=by
 unfold bnd at c;split at c;.grind
 .rename_i i;let⟨a,e,f,c⟩:=u6 h c;cases a<;>try exact c.elim
  rename_i k n;cases k<;>try exact c.elim
  have f:ev ρ i=.int _ n:=f;exact⟨n,e,c,.inr (by grind)⟩
def d4e(h:Rel E Z π σ ρ w){t:TypeId}{c:U.C}{l r:O (U.T c)}{p q:A3 Operand}{i j:Int}(B:k9 (Rp c) (cx Z π σ w).G w (ev ρ x) l)(C:b2o P t c=true)(A:(p.map (ev ρ)=none/\i=0)\/p.map (ev ρ)=some (.int .i64 i))(o:(q.map (ev ρ)=none/\j=(l.length:Int))\/q.map (ev ρ)=some (.int .i64 j))(D:a1x l i j=some r):a48 P E σ ρ w ⟨d,.slice t x p q none,ty,ps,af,g⟩ (.list c r) []:=by let⟨e,n,s,_,_⟩:=b1m C;let⟨u,f,k⟩:=g60 n (a9m s) B D A o;exact g8 h (by simp[YV,execOp,f]) k
def f2b{s r:A4}{a b:Int}(h:c3u s a b=some r):0<=a/\a<=b/\b<=(s.size:Int)/\r=s.extract a.toNat b.toNat:=by grind[c3u]
def e4z{t:TypeId}{s r:A4}{k l:A3 A5}{i j:Int}(f:P.underlying t=some .string)(h:(k=none/\i=0)\/k=some (.int .i64 i))(n:(l=none/\j=(s.size:Int))\/l=some (.int .i64 j))(p:c3u s i j=some r):(Instr.sliceAt t (.string s) k l none).run P w=.ok (.string r) w:=by
 obtain⟨q,A,u,rfl⟩:=f2b p;have o:(0<=j/\j<=(s.size)):=by omega
 have c:(0<=i/\i<=(j.toNat)):=by omega
 rcases h with⟨rfl,rfl⟩|rfl<;>rcases n with⟨rfl,B⟩|rfl
 .have e:=by omega
  simp[Instr.sliceAt,Instr.slice,run_underlying f,Instr.sliceBounds,e]
 .simp[Instr.sliceAt,Instr.slice,run_underlying f,Instr.sliceBounds,Instr.sliceBound,asIntOf,o]
 .have e:j.toNat=s.size:=by omega
  rw[e]at c;simp[Instr.sliceAt,Instr.slice,run_underlying f,Instr.sliceBounds,Instr.sliceBound,asIntOf,c,e]
 .simp[Instr.sliceAt,Instr.slice,run_underlying f,Instr.sliceBounds,Instr.sliceBound,asIntOf,o,c];omega
def e57(N:UOK U)(h:Rel E Z π σ ρ w){t:TypeId}{lo hi:A3 Operand}(C:AVR (cx Z π σ w) a (ev ρ x))(f:(f0n P t a lo hi).Ev σ m0 m v ws):a48 P E σ ρ w ⟨d,.slice t x lo hi none,ty,ps,af,g⟩ v ws:=by
 unfold f0n at f;split at f
 .rename_i s;split at f;.rename_i ht;let⟨i,V,f,k⟩:=b1t h f;let⟨j,T,f,o⟩:=b1t h f;obtain⟨r,B,q,rfl,rfl⟩:=f;have C:ev ρ x=.string s:=C;exact g8 h (by simp[YV,execOp,C,(e4z ht k o B)]) rfl
  .exact f.elim
 .split at f;.rename_i K;let⟨i,V,f,k⟩:=b1t h f;let⟨j,T,f,o⟩:=b1t h f;obtain⟨r,B,q,rfl,rfl⟩:=f;exact d4e h C K k o B
  .exact f.elim
 .rename_i M;have hm:=h.mem M;simp [Q.Ev]at f;split at f
  .rename_i L c l D;split at f
   .rename_i K;let⟨i,V,f,k⟩:=b1t h f;let⟨j,T,f,o⟩:=b1t h f;obtain⟨r,B,q,rfl,rfl⟩:=f;have Y:FZ σ [(M,.fz c l)]:=by intro id' m' hh;simp_all
    have h1:=h.freeze Y;refine d4e h1 ?_ K k o B;have q:=h1.mem M;rw[o8,b6v]at q;rw[C.2.1];exact q
   .exact f.elim
  .rename_i c l D;split at f;.rename_i K;let⟨i,V,f,k⟩:=b1t h f;let⟨j,T,f,o⟩:=b1t h f;obtain⟨r,B,q,rfl,rfl⟩:=f;rw[D]at hm;exact d4e h (by rw[C.2.1];exact hm) K k o B
   .exact f.elim
  .exact f.elim
 .rename_i M c p;unfold arrQ at f;split at f;case h_2=>exact f.elim
  split at f;case h_2=>exact f.elim
  split at f;case h_2=>exact f.elim
  rename_i A;obtain⟨_,rfl,rfl⟩:=f;let⟨W,m,e,G,F,H⟩:=c26 A;let⟨hu,I,had,J,X⟩:=C;refine g8 h (v:=.slice (some (I.add (d2l c p))) m m) ?_ ⟨hu,I,had,J,by grind⟩;have L:∀a:Addr,a.add 0=a:=λa=>by simp[Addr.add]
  simp[YV,execOp,X,Instr.sliceAt,run_underlying G,Instr.sureAddr,Instr.sliceBounds,b45 H,L]
 .rename_i ca z;split at f;case h_2=>exact f.elim
  split at f;case h_2=>exact f.elim
  rename_i A;simp only[qB]at A;obtain⟨_,rfl,rfl⟩:=f;let⟨W,m,e,G,F,H⟩:=c26 A.1;let⟨I,cs,X,hb,hg,hca,B⟩:=C;have hlen:(U.al ca z).length=m:=by rw[F];exact(N.arr ca z W).2
  refine g8 h (v:=.slice (some I) m m) ?_ (.inr ⟨I,m,by grind,by omega,?_,λi y hy=>?_⟩)
  .have L:∀a:Addr,a.add 0=a:=λa=>by simp[Addr.add]
   simp[YV,execOp,X,Instr.sliceAt,run_underlying G,Instr.sureAddr,Instr.sliceBounds,b45 H,L]
  .rw[F];exact Nat.le_trans (qW A.2) (by decide)
  .let⟨u,hu,B⟩:=a18 B;let⟨u1,R,S⟩:=d3n N W B (ad:=I) (n:=i) (y:=y) (by simp_all) (by unfold c7;simp_all);exact⟨_,e2d N (b4w (.inl (a1w N _ y).1) R),hb,hg,S⟩
 .exact f.elim
end
section
variable {P:Program} {U:Uni}
def cz(Z:Nat->Prop)(w:World):Cx:=⟨Z,λ_=>undef,λ_=>False,w⟩
def b0h{X X':Cx}{a:U.AV}{u:A5}(o:c06 a=true)(h:a1p X a u)(f:X'.w=X.w)(e:∀b,X.Z b->X'.Z b):a1p X' a u:=by cases a<;>first|(cases o;done)|exact h|(let⟨i,g,k⟩:=h;refine⟨i,g,?_⟩;rw[f];exact(Rp _).weaken k λb _ d c=>d (e b c))|(show k9 _ _ _ u _;rw[f];exact k9.weaken h λb _ d c=>d (e b c))|(let⟨m,i,g,d,n,j,k⟩:=h;refine⟨m,i,g,?_⟩;rw[f];exact⟨d,λl=>n λc=>l (e _ c),j,k.weaken λb _ d c=>d (e b c)⟩)
def c3i(l:UOK U){X:Cx}{c:U.C}{a:U.AV}{x:U.T c}(h:prj c a=some x){u:A5}(i:a1p X a u):a1p X (inj c x) u:=by unfold prj at h;unfold inj;cases m:U.ag c with
 |true=>
   rw[m]at h;have g:∀{f:U.C}{e:U.T f},cst c e=some x->a1p X (.val f e) u->a1p X (.val c x) u:=by
    intro f e h i;unfold cst at h;split at h;.grind
    simp_all
   cases a<;>try(cases h)
   case val f e=>grind
   case st f p=>
    dsimp only at h;split at h;.rename_i e d;let⟨j,n,_,_,o⟩:=i;exact g h ⟨j.flatten,n,e03 l d o⟩
    simp_all|false=>rw[m]at h;have d:=l.mkl c [a] x h;cases k:U.flds c x with|nil=>rw[k]at d;exact d.elim|cons b r=>rw[k]at d;cases r with|nil=>exact e36 d.1 i|cons _ _=>exact d.2.elim
def e82:∀(m:O (Nat×Nat))(l a:O U.AV)(j:Nat),((∃id,(j,id)∈m/\(j<l.length->(b8h m l)[j]?=some (.ref id))))\/((b8h m l)[j]?=l[j]?/\(d0v m a)[j]?=a[j]?)
 |[],l,a,j=>.inr ⟨rfl,rfl⟩|q::m,l,a,j=>by
   have b:∀(m:O _)(l:O U.AV),(b8h m l).length=l.length:=by intro m l;induction m with|nil=>rfl|cons q m f=>simp[b8h,f]
   by_cases e:q.1=j;.left;subst e;exact⟨q.2,qI,λc=>by simp[b8h,b,c]⟩
   .rcases e82 m l a j with⟨id,d,h⟩|⟨d,h⟩;.left;refine⟨id,qJ _ d,λc=>?_⟩;simp [b8h];simp_all
    .simp [b8h,d0v];simp_all
def b6d:∀(m:O (Nat×Nat))(l:O U.AV),(b8h m l).length=l.length|[],_=>rfl|q::m,l=>by simp[b8h,b6d m l]
def d6b:∀(m:O (Nat×Nat))(l:O U.AV),(d0v m l).length=l.length|[],_=>rfl|q::m,l=>by simp[d0v,d6b m l]
def c1y{fs:O U.AV}{f i:Nat}(h:c71 fs f=some i):fs[f]?=some (.ref i):=by grind[c71]
def d37(D:UOK U){X X':Cx}{c:U.C}{fs:O U.AV}{m:O (Nat×Nat)}{x:U.T c}{css:O (O A5)}(o:fs.map a07=U.lay c)(L:fs.all a03=true)(C:y7 (λa s=>∃u:A5,u.cells.toList=s/\b79 X a u) fs css)(R:U.mkv c (d0v m fs)=some x)(M:X'.w=X.w)(N:∀b,X.Z b->X'.Z b)(q:∀j id,(j,id)∈m->∃i,fs[j]?=some (.ref i)/\X'.us id/\X'.π id=X.π i):(b8h m (U.flds c x)).map a07=U.lay c/\(b8h m (U.flds c x)).all a03=true/\y7 (λa s=>∃u:A5,u.cells.toList=s/\b79 X' a u) (b8h m (U.flds c x)) css:=by
 have E:=D.mkl c _ x R;have I:=D.lay c x;have l:(U.flds c x).length=fs.length:=by have k:=y7.length E;rw[d6b]at k;omega
 have f:∀(j:Nat)(a:U.AV),(b8h m (U.flds c x))[j]?=some a->a03 a=true/\(U.lay c)[j]?=some (a07 a)/\∀s u,fs[j]?≠none->css[j]?=some s->(∀t,fs[j]?=some t->b79 X t u)->b79 X' a u:=by
  intro j a d;have y:=by have:=(qD.1 d).1;rwa[b6d]at this
  rcases e82 m _ fs j with⟨id,k,w⟩|⟨k,w⟩
  .rw[w y]at d;cases d;let⟨i,H,z,K⟩:=q j id k;refine⟨rfl,?_,λs u _ _ r=>?_⟩;.rw[<-o,getElem?_map,H];rfl
   .let⟨V,T,Q⟩:=r _ H;exact⟨z,by grind,Q⟩
  .rw[k]at d;have n:=qX.1 (D.kind c x) a (qE d);have p:a03 a=true:=by cases a<;>first|rfl|cases n
   refine⟨p,?_,λs u e _ r=>?_⟩;.rw[<-I,getElem?_map,d];rfl
   .cases G:fs[j]?with|none=>grind|some t=>have v:=r t G;rw[G]at w;let⟨b,F,A⟩:=E.get w;rw[d]at F;cases F;exact a1p.to0 p (b0h n (e36 A (.of0 v)) M N)
 refine⟨?_,?_,?_⟩;.apply ext_getElem?;intro j;rw[getElem?_map];cases d:(b8h m _)[j]?with|some a=>rw[(f j a d).2.1];rfl|none=>have:=List.getElem?_eq_none_iff.1 d;rw[b6d]at this;rw[<-I,getElem?_map,getElem?_eq_none this]
 .rw[qX];intro a d;let⟨j,y⟩:=getElem?_of_mem d;exact(f j a y).1
 .refine y7.of_get (by rw[b6d,l];exact C.length) λj a s d B=>?_;have e:=qG (by rw[C.length];exact(qD.1 B).1);let⟨S,g,u,r,J⟩:=C.get e;rw[B]at g;cases g;exact⟨u,r,(f j a d).2.2 s u (by rw[e];intro h;cases h) B λt v=>by rw[e]at v;rw[<-qH v];omega⟩
def f1r{G o:Nat->Prop}{w w':World}(j:UOK U):∀(k:Nat)(c:U.C)(cs:O A5)(x:U.T c),U.flat c=true->(Rd k c).rep G w cs x->(Rd k c).rep o w' cs x|0,_,_,_,_,h=>False.elim h|k+1,c,cs,x,l,⟨e,b,g,h⟩=>by refine⟨e,b,g,?_⟩;have d:=j.flat c x l;clear e g;generalize U.flds c x=i at h d;induction i generalizing b with
   |nil=>cases b with|nil=>trivial|cons _ _=>exact h.elim
   |cons a i m=>cases b with|nil=>exact h.elim|cons s b=>simp only[all_cons,qB]at d;refine⟨?_,m b h.2 d.2⟩;have f:=h.1;cases a<;>simp [e8]at f⊢<;>first|omega|(cases d.1)|exact f1r j k _ _ _ d.1 f
def d4n(b:UOK U){G a:Nat->Prop}{w w':World}{c:U.C}(d:U.flat c=true){cs:O A5}{x:U.T c}(h:(Rp c).rep G w cs x):(Rp c).rep a w' cs x:=by let⟨k,h⟩:=h;exact⟨k,f1r b k c cs x d h⟩
def AR(σ:U.St)(d:Nat->A5)(X:Cx)(h:O A5):(p:PK U.C)->A5->p.T U->O Nat->Prop|.v c,u,x,i=>i=[]/\a1p X (inj c x) u|.ls c,u,l,i=>i=[]/\k9 (Rp c) X.G X.w u l|.rp _ c,u,x,i=>i=[]/\a1p X (.rp (inj c x)) u|.ow e c,u,l,i=>(i=[]/\u=.slice none 0 0/\l=[])\/∃a,i=[a]/\u=d a/\σ.mem a=.sl e c l|.io t c,u,x,i=>∃a b,i=[a]/\u=d a/\σ.mem a=.box t b/\MR X (.box t (inj c x)) u|.im t c m,u,x,i=>∃a n,i=[a]/\u=d a/\σ.mem a=.box t (.st c n)/\U.mkv c (d0v m n)=some x/\∀f k,(f,k)∈m->∃j,n[f]?=some (.ref j)/\h[k]?=some (d j)|.po _ _ e c,u,l,i=>∃a,i=[a]/\u=d a/\σ.mem a=.sl e c l|.so e c,u,l,i=>∃a,i=[a]/\u=d a/\σ.mem a=.sl e c l|.cl f q,u,x,i=>i=[]/\∃o:O A5,u=.func (.func f) #[] o.toArray/\y7 (a1p X) (f3e q x) o|.bn f c,u,x,i=>i=[]/\AVR X (.bnd f (inj c x)) u|.km g t,u,x,i=>i=[]/\AVR X (.km g t x:U.AV) u|.vl g t c,u,x,i=>i=[]/\AVR X (.vl g t c x) u
def ARs(σ:U.St)(b:Nat->A5)(X:Cx)(a:O A5):(ps:O (PK U.C))->O A5->Args U ps->O (O Nat)->Prop|[],[],_,[]=>True|p::ps,u::c,(x,e),i::d=>AR σ b X a p u x i/\ARs σ b X a ps c e d|_,_,_,_=>False
def RR(X:Cx):(r:RK U.C)->r.T U->A5->Prop|.v c,x,u=>a1p X (inj c x) u|.ls c,x,u=>k9 (Rp c) X.G X.w u x|.ow e c,x,u=>MR X (.sl e c x) u|.bo _ _,none,u=>u=.pointer none|.bo t c,some x,u=>MR X (.box t (inj c x)) u
def RRs(X:Cx):(a:O (RK U.C))->Ress U a->O A5->Prop|[],_,[]=>True|r::a,(x,c),u::d=>RR X r x u/\RRs X a c d|_,_,_=>False
def OR(X:Cx):(ps:O (PK U.C))->Outs U ps->O A5->Prop|[],_,[]=>True|.io t c::ps,(x,b),u::a=>MR X (.box t (inj c x)) u/\OR X ps b a|.im t c m::ps,(x,b),u::a=>MR X (.box t (.st c (b8h m (U.flds c x)))) u/\OR X ps b a|.po _ _ e c::ps,(x,b),u::a=>MR X (.sl e c x) u/\OR X ps b a|.so e c::ps,(x,b),u::a=>MR X (.sl e c x) u/\OR X ps b a|.v _::ps,b,_::a=>OR X ps b a|.ls _::ps,b,_::a=>OR X ps b a|.ow _ _::ps,b,_::a=>OR X ps b a|.rp _ _::ps,b,_::a=>OR X ps b a|.cl _ _::ps,b,_::a=>OR X ps b a|.bn _ _::ps,b,_::a=>OR X ps b a|.km _ _::ps,b,_::a=>OR X ps b a|.vl _ _ _::ps,b,_::a=>OR X ps b a|_,_,_=>False
def c59:O (RK U.C)->O A5->O A5|.ow _ _::b,u::a=>u::c59 b a|.bo _ _::b,u::a=>u::c59 b a|_::b,_::a=>c59 b a|_,_=>[]
def ioB:O (PK U.C)->O A5->O A5|.io _ _::b,u::a=>u::ioB b a|.im _ _ _::b,u::a=>u::ioB b a|.po _ _ _ _::b,u::a=>u::ioB b a|.so _ _::b,u::a=>u::ioB b a|_::b,_::a=>ioB b a|_,_=>[]
def g6p:O A5->A5|[u]=>u|a=>.tuple a.toArray
def c7a(us:O A5):Nat->A5:=λt=>us.getD t undef
def czO(Z:Nat->Prop)(ps:O (PK U.C))(us:O A5)(w:World):Cx:=⟨Z,c7a us,λk=>∃p,ps[k]?=some p/\d4j p=true,w⟩
structure Post(s:Sig U)(Z G:Nat->Prop)(w:World)(args:O A5)(r:Ress U s.rs×Outs U s.ps)(u:A5)(w':World):Prop where ex:∃(Z':Nat->Prop)(us args':O A5),u=g6p us/\(∀b,Z b->Z' b)/\(∀b,Z' b->Z b\/G b\/(w.heap.size<=b/\b<w'.heap.size))/\Ext G w w'/\args'.length=args.length/\(∀(i:Nat)(p:PK U.C),s.ps[i]?=some p->d4j p=false->args'[i]?=args[i]?)/\RRs (cz Z' w') s.rs r.1 us/\OR (czO Z' s.ps args' w') s.ps r.2 args'/\(∀v∈c59 s.rs us++ioB s.ps args',∀b,hdV v=some b->¬Z' b/\b<w'.heap.size/\(G b\/w.heap.size<=b))/\(∀(i j:Nat)(v v':A5)(b:Nat),i≠j->(c59 s.rs us++ioB s.ps args')[i]?=some v->(c59 s.rs us++ioB s.ps args')[j]?=some v'->hdV v=some b->hdV v'≠some b)
def c0f(ps:O (PK U.C))(i:Nat):Prop:=(∃t c,ps[i]?=some (.io t c))\/(∃t c m,ps[i]?=some (.im t c m))\/∃e c,ps[i]?=some (.so e c)
def Spec(P:Program)(f:FuncId)(fe:Fent U):Prop:=∀(c:Args U fe.s.ps)(b:fe.B),fe.F c=some b->∀(Z G:Nat->Prop)(w:World)(a:O A5),a.length=fe.s.ps.length->Rel ⟨w,G,Z,c0f fe.s.ps,c7a a⟩ Z (c7a a) (a02 0 fe.s.ps c) (c7a (a.take (npK fe.s.ps))) w->Calls P f (a.take (npK fe.s.ps)).toArray w λe d=>∃u,e=.returned u/\Post fe.s Z G w a (fe.wr b) u d
def b44(P:Program)(f:FuncId):Prop:=∀(a:Array A5)(w:World),(callFunc f a).run P w=.ok (.enter f a) w
def d6d(P:Program)(f:FuncId)(fe:Fent U):Prop:=∀(c:Args U fe.s.ps)(b:fe.B),fe.F c=some b->∀(Z G:Nat->Prop)(w:World)(a:O A5),a.length=fe.s.ps.length->Rel ⟨w,G,Z,c0f fe.s.ps,c7a a⟩ Z (c7a a) (a02 0 fe.s.ps c) (c7a (a.take (npK fe.s.ps))) w->∃u d,(callFunc f (a.take (npK fe.s.ps)).toArray).run P w=.ok (.value u) d/\Post fe.s Z G w a (fe.wr b) u d
def b9c(P:Program)(f g:FuncId)(t:TypeId):Prop:=b44 P f/\∀(u:A5),u.cells.toList=[u]->∀w:World,Calls P f #[u] w λe a=>e=.returned (.func (.func g) #[] #[.pointer (some ⟨w.heap.size,0,none⟩)])/\a=w.alloc (.cells #[u] t)
def d6v(P:Program)(f:FuncId)(q:Nat->O U.AV->U.Q):Prop:=b44 P f/\∀(E:Env)(Z:Nat->Prop)(h:Nat->A5)(a:U.St)(j:Nat->A5)(w:World)(n:Nat)(i:O U.AV)(c:O A5)(l m:Nat)(v:U.AV)(g:O (Nat×U.MC)),Rel E Z h a j w->y7 (AVR (cx Z h a w)) i c->(q n i).Ev a l m v g->Calls P f c.toArray w λe o=>∃u,e=.returned u/\∀d:A3 Tmp,∃k b,Rel E k b (a.app d v g) (b20 j d u) o
def c9b(P:Program)(f:FuncId)(fe:Fent U):Prop:=match fe.kc with|some (.seq g t _)=>b9c P f g t|some (.qy q)=>d6v P f q|none=>(Spec P f fe/\b44 P f)\/d6d P f fe
section
variable {E:Env} {Z:Nat -> Prop} {π:Nat -> A5} {σ:U.St} {ρ:Nat -> A5} {w:World}
variable {m0 m:Nat} {a b v:U.AV} {ws:O (Nat×U.MC)} {fr:Nat}
def b50(σ:U.St)(π:Nat->A5)(c:O (Nat×U.MC))(b:Nat):Prop:=∃q∈c,MB (σ.mem q.1) (π q.1) b
def g00(p:UOK U)(h:Rel E Z π σ ρ w){t:TypeId}{c:U.C}{b:U.AV}{q:A5}{k:U.T c->O (Nat×U.MC)->U.Q}(A:MR (cx Z π σ w) (.box t b) q)(d:(h1o c b k).Ev σ m0 m v ws):∃x g o,(k x g).Ev σ o m v ws/\FZ σ g/\∃(e:Nat)(i:A5),q=.pointer (some ⟨e,0,none⟩)/\Mb w e t i.cells.toList/\∀Z',(∀b,Z b->Z' b)->(∀b,b50 σ π g b->Z' b)->e8 Rp (cz Z' w).G w (inj c x) i.cells.toList:=by
 let⟨e,i,r,s,y⟩:=A;have l:∀{x:U.T c}{g:O _}{z:Nat->Prop},(∀b,z b->Z b\/b50 σ π g b)->(Rp c).rep _ w i.cells.toList x->∀Z',(∀b,Z b->Z' b)->(∀b,b50 σ π g b->Z' b)->e8 Rp (cz Z' w).G w _ _:=λJ Q Z' F f=>(b6w p Q).weaken λb _ V T=>V ((J b T).elim (F b) (f b));unfold h1o at d;split at d
 .rename_i H Y;let⟨X,N,u,j,C⟩:=y;let⟨I,g,o,d,S,D⟩:=g7k (c:=H) p h j C d;split at d;case h_2=>exact d.elim
  rename_i W L;split at d;case h_2=>exact d.elim
  rename_i x n;unfold cst at n;split at n;case h_2=>cases n
  rename_i R _;subst R;cases n;refine⟨_,g,o,d,S,e,i,r,s,l (λb f=>?_) (by rw[N];exact (D W L))⟩;rcases f with f|⟨K,m,M,f⟩;.exact .inl f
  .exact .inr ⟨(K,m),b1x M,f⟩
 .cases j:prj c b with|none=>rw[j]at d;exact d.elim|some x=>rw[j]at d;exact⟨x,[],m0,d,(λ_ _ B=>by cases B),e,i,r,s,l (λb f=>.inl f) (b85 p j y)⟩
def g9o(B:UOK U)(h:Rel E Z π σ ρ w){H:Bool}{c:U.C}{u:A5}{k:U.T c->O (Nat×U.MC)->U.Q}(F:AVR (cx Z π σ w) a u)(d:(rpQ H c a k).Ev σ m0 m v ws):∃x l G,(k x l).Ev σ G m v ws/\(H=true->FZ σ l)/\(∀q∈l,σ.mem q.1≠.never)/\∀Z',(∀b,Z b->Z' b)->(∀b,b50 σ π l b->Z' b)->a1p (cz Z' w) (.rp (inj c x)) u:=by
 unfold rpQ at d;split at d
 .split at d;.rename_i x K;refine⟨x,[],_,d,λ_=>(λ_ _ p=>by grind),(by grind),λZ' n _=>?_⟩;let⟨T,S,o,i,R,y,z⟩:=F;refine⟨T,S,o,i,λt=>R λg=>t (n _ g),y,?_⟩;let⟨I,A,C⟩:=a18 z;have r:=b85 B K C;rw[A]at r;exact(b6w B r).weaken λb _ i g=>i (n b g)
  .exact d.elim
 .rename_i M;split at d;.exact d.elim
  .simp [Q.Ev]at d;have D:=h.mem M;split at d
   .rename_i t' X f;rw[f]at D;let⟨x,l,G,d,N,j,I,o,J,z⟩:=g00 B h D d;refine⟨x,_,_,d,(λV=>by grind),(λq p=>?_),λZ' n i=>⟨⟨j,0,none⟩,I.cells.toList,by rw[F.2.1];exact o,J.lt,λt=>t (i j ⟨_,qI,?_⟩),J.ca,z Z' n λb⟨q,L,s⟩=>i b ⟨q,qJ _ L,s⟩⟩⟩
    .rcases qO.1 p with rfl|p;.simp_all
     .let⟨e,W,Y,r,_⟩:=N q.1 q.2 p;simp_all
    .rw[f,o];rfl
   .exact d.elim
 .exact d.elim
def f9s(p:UOK U)(h:Rel E Z π σ ρ w){y:Bool}:∀{cs:O U.C}{as:O U.AV}{vs:O A5}{k:CapT U cs->O (Nat×U.MC)->U.Q}{m0 m:Nat}{v:U.AV}{ws:O (Nat×U.MC)},y7 (a1p (cx Z π σ w)) as vs->(h3f y cs as k).Ev σ m0 m v ws->∃x i s,(k x i).Ev σ s m v ws/\(y=true->FZ σ i)/\(∀q∈i,σ.mem q.1≠.never)/\∀Z',(∀b,Z b->Z' b)->(∀b,b50 σ π i b->Z' b)->y7 (a1p (cz Z' w)) (f3e cs x) vs
 |[],[],[],k,m0,m,v,ws,_,d=>⟨(),[],m0,d,λ_=>(λ_ _ e=>by grind),(λ_ e=>by grind),λ_ _ _=>trivial⟩|c::cs,a::as,u::J,k,m0,m,v,ws,g,d=>by
   let⟨x,i,s,d,z,D,F⟩:=g9o p h (AVR.of1 g.1) d;let⟨I,l,B,d,A,H,G⟩:=f9s p h g.2 d;refine⟨(x,I),i++l,B,d,λj r m e=>?_,λq e=>?_,λZ' o t=>⟨F Z' o λb⟨q,n,f⟩=>t b ⟨q,mem_append_left _ n,f⟩,G Z' o λb⟨q,n,f⟩=>t b ⟨q,mem_append_right _ n,f⟩⟩⟩
   .rcases qK.1 e with e|e;.exact z j r m e
    .exact A j r m e
   .rcases qK.1 e with e|e;.exact D q e
    .exact H q e|[],_::_,_,_,_,_,_,_,_,d=>d.elim|_::_,[],_,_,_,_,_,_,_,d=>d.elim|[],[],_::_,_,_,_,_,_,g,_=>g.elim|_::_,_::_,[],_,_,_,_,_,g,_=>g.elim
def g8a(Y:UOK U)(h:Rel E Z π σ ρ w){nf:Bool}{all:O U.AV}{ua:O A5}(hall:y7 (AVR (cx Z π σ w)) all ua){p:PK U.C}{u:A5}{k:p.T U->O Nat->O (Nat×U.MC)->U.Q}(F:AVR (cx Z π σ w) a u)(d:(e5a nf all p a k).Ev σ m0 m v ws):∃x i K R,(k x i K).Ev σ R m v ws/\(nf=true->FZ σ K)/\(∀q∈K,σ.mem q.1≠.never)/\(∀id∈i,σ.mem id≠.never)/\∀Z',(∀b,Z b->Z' b)->(∀b,b50 σ π K b->Z' b)->AR σ π (cz Z' w) ua p u x i:=by
 have trl:∀{c:U.C}{l:O (U.T c)}(Z':Nat->Prop),(∀b,Z b->Z' b)->k9 (Rp c) (cx Z π σ w).G w u l->k9 (Rp c) (cz Z' w).G (cz Z' w).w u l:=λZ' z V=>k9.weaken V λb _ D J=>D (z b J)
 cases p with|v c=>
   simp [e5a]at d;split at d
   .rename_i x W;refine⟨x,[],[],_,d,λ_=>(λ_ _ g=>by grind),(λ_ g=>by grind),(λ_ g=>by grind),λZ' z _=>⟨rfl,?_⟩⟩;have hs:c1d a=true:=by cases a<;>first
      |rfl
      | (unfold prj at W;cases hag:U.ag c<;>rw[hag]at W<;>try(cases W)
         have hk:=Y.mkl c _ x W;have hkd:=Y.kind c x;cases C:U.flds c x with|nil=>rw[C]at hk;exact hk.elim|cons b r=>
           rw[C]at hk hkd;simp [all_cons,qB]at hkd;rcases hk.1with B|⟨B,_⟩;.rw[<-B]at hkd;cases hkd.1
           simp_all)
    exact b0h (a1w Y c x).1 (c3i Y W (a8m hs F)) rfl z
   .exact d.elim|ls c=>
   simp [e5a,argL]at d;split at d
   .split at d;.rename_i l C;let⟨I,y⟩:=a3i (G:=noG) (w:=w) C;subst I;subst y;exact⟨_,[],[],_,d,λ_=>(λ_ _ g=>by grind),(λ_ g=>by grind),(λ_ g=>by grind),λZ' z _=>⟨rfl,trl Z' z F⟩⟩
    .exact d.elim
   .exact⟨[],[],[],_,d,λ_=>(λ_ _ g=>by grind),(λ_ g=>by grind),(λ_ g=>by grind),λZ' z _=>⟨rfl,.inl ⟨F,rfl⟩⟩⟩
   .rename_i id;have hm:=h.mem id;simp [Q.Ev]at d;split at d
    .rename_i e c' l' n;split at d;.rename_i l C;let⟨I,y⟩:=a3i (G:=noG) (w:=w) C;subst I;subst y;refine⟨_,[],_,_,d,λ_=>(λid' m' g=>by simp_all),(λq g=>by simp_all),(λ_ g=>by grind),λZ' z D=>⟨rfl,?_⟩⟩;rw[n]at hm;rw[F.2.1];refine c0x (X:=cx Z π σ w) hm z λb hb'=>D b ⟨_,qF.2 rfl,?_⟩;rw[n];let⟨css,hO,_⟩:=hm;let⟨ad,cap,M,_⟩:=hO.shape;exact(a95 M).1 hb'
     .exact d.elim
    .rename_i c' l' n;split at d;.rename_i l C;let⟨I,y⟩:=a3i (G:=noG) (w:=w) C;subst I;subst y;rw[n]at hm;exact⟨_,[],[],_,d,λ_=>(λ_ _ g=>by cases g),(λ_ g=>by grind),(λ_ g=>by grind),λZ' z _=>⟨rfl,by rw[F.2.1];exact k9.weaken hm λb _ D J=>D (z b J)⟩⟩
     .exact d.elim
    .exact d.elim
   .exact d.elim|ow e c=>
   simp [e5a]at d;split at d;.exact⟨[],[],[],_,d,λ_=>(λ_ _ g=>by grind),(λ_ g=>by grind),(λ_ g=>by grind),λZ' z _=>.inl ⟨rfl,F,rfl⟩⟩
   .rename_i id;simp [Q.Ev]at d;split at d
    .rename_i e' c' l' n;split at d;.rename_i l A C;have B:=qC A;let⟨I,y⟩:=a3i (G:=noG) (w:=w) C;subst I;subst y;subst B;exact⟨_,[id],[],_,d,λ_=>(λ_ _ g=>by cases g),(λ_ g=>by grind),(λq g=>by simp_all),λZ' z _=>.inr ⟨id,rfl,F.2.1,n⟩⟩
     .exact d.elim
    .exact d.elim
   .exact d.elim|rp t c=>let⟨x,K,R,B,h2,h3,h4⟩:=g9o Y h F d;exact⟨x,[],K,R,B,h2,h3,(λ_ g=>by grind),λZ' z D=>⟨rfl,h4 Z' z D⟩⟩|cl f cs=>
   simp [e5a]at d;split at d
   .split at d;.rename_i hf;have:=qC hf;subst this;let⟨vs,M,V⟩:=F;let⟨x,K,R,B,h2,h3,h4⟩:=f9s Y h V d;exact⟨x,[],K,R,B,h2,h3,(λ_ g=>by cases g),λZ' z D=>⟨rfl,vs,M,h4 Z' z D⟩⟩
    .exact d.elim
   .exact d.elim|bn f c=>
   simp [e5a]at d;split at d
   .split at d;.rename_i x hf W;have:=qC hf;subst this;let⟨r,M,V⟩:=F;exact⟨x,[],[],_,d,λ_=>(λ_ _ g=>by grind),(λ_ g=>by grind),(λ_ g=>by grind),λZ' z _=>⟨rfl,r,M,b0h (a1w Y c x).1 (c3i Y W V) rfl z⟩⟩
    .exact d.elim
   .exact d.elim|km g0 t0=>
   simp [e5a]at d;split at d;.rename_i g' i;let⟨vs,M,s⟩:=F;match vs,s with
    |[u1],s=>
      have B:=s.1;have hi:=h.mem i;simp [Q.Ev]at d;split at d
      .rename_i t' j H;rw[H]at hi;let⟨T,uu,N,hM,ha⟩:=hi;have hj:=h.mem j;simp [Q.Ev]at d;split at d
       .rename_i l hmj;rw[hmj]at hj;let⟨mb,hpj,hnd,S⟩:=hj;split at d
        .rename_i o;simp only[qB]at o;have e1:=qC o.1;have e2:=qC o.2;subst e1;subst e2;have huu:uu=.map (some mb):=by have:=ha.2.1;rw[this];exact hpj
         have hu1:u1=.pointer (some ⟨T,0,none⟩):=by rw[B.2.1];exact N
         have L:uu.cells.toList=[.map (some mb)]:=by rw[huu];rfl
         refine⟨l,[],_,_,d,(λhnf=>by cases hnf),(λq g=>?_),(λ_ g=>by cases g),λZ' z D=>⟨rfl,T,mb,by rw[M,hu1],⟨hM.lt,λhn=>hn (D T ⟨_,qI,?_⟩)⟩,⟨(qN.1 S).1,λhn=>hn (D mb ⟨_,qJ _ qI,?_⟩)⟩,by rw[<-L];exact hM,hnd,S⟩⟩
         .simp [qO,not_mem_nil,or_false]at g;rcases g with rfl|rfl;.rw[H];intro h;cases h
          .rw[hmj];intro h;cases h
         .rw[H,N];rfl
         .rw[hmj,hpj];rfl
        .exact d.elim
       .exact d.elim
      .exact d.elim|[],s=>exact s.elim|_::_::_,s=>exact s.2.elim
   .exact d.elim|vl g0 t0 c=>
   simp [e5a]at d;split at d;.rename_i g' i;let⟨vs,M,s⟩:=F;match vs,s with
    |[u1],s=>
      have B:=s.1;have hi:=h.mem i;simp [Q.Ev]at d;split at d
      .rename_i t' b0 H;rw[H]at hi;let⟨T,uu,N,hM,ha⟩:=hi;have hu1:u1=.pointer (some ⟨T,0,none⟩):=by rw[B.2.1];exact N
       have key:∀(l:O (U.T c))R,(k l [] [(i,.dead)]).Ev σ R m v ws->(Nat.beq g0 g'&&Nat.beq t0 t')=true->k9 (Rp c) (cx Z π σ w).G w uu l->∃x i K R,(k x i K).Ev σ R m v ws/\(false=true->FZ σ K)/\(∀q∈K,σ.mem q.1≠.never)/\(∀id∈i,σ.mem id≠.never)/\∀Z',(∀b,Z b->Z' b)->(∀b,b50 σ π K b->Z' b)->AR σ π (cz Z' w) ua (.vl g0 t0 c) u x i:=by
        intro l R hev2 o V;simp only[qB]at o;have e1:=qC o.1;have e2:=qC o.2;subst e1;subst e2;have L:=c0w (c7u V);refine⟨l,[],_,_,hev2,(λhnf=>by cases hnf),(λq g=>?_),(λ_ g=>by cases g),λZ' z D=>⟨rfl,T,uu,by rw[M,hu1],⟨hM.lt,λhn=>hn (D T ⟨_,qI,?_⟩)⟩,by rw[<-L];exact hM,k9.weaken V λb _ D J=>D (z b J)⟩⟩;.simp [qO,not_mem_nil,or_false]at g;subst g;rw[H];intro h;cases h
        .rw[H,N];rfl
       cases o:(Nat.beq g0 g'&&Nat.beq t0 t')with|false=>rw[o]at d;cases b0<;>exact d.elim|true=>
         rw[o]at d;cases b0<;>try exact d.elim
         .exact key [] _ d o (.inl ⟨ha,rfl⟩)
         .rename_i c' l';simp []at d;cases C:b8i c l' with|none=>rw[C]at d;exact d.elim|some l=>rw[C]at d;let⟨I,y⟩:=a3i (G:=noG) (w:=w) C;subst I;subst y;exact key _ _ d o ha
      .exact d.elim|[],s=>exact s.elim|_::_::_,s=>exact s.2.elim
   .split at d;.rename_i l A C;simp only[qB]at A;have e1:=qC A.1;have e2:=qC A.2;subst e1;subst e2;let⟨I,y⟩:=a3i (G:=noG) (w:=w) C;subst I;subst y;let⟨T,sv,B,⟨h2,h3⟩,h4,h5⟩:=F;exact⟨_,[],[],_,d,(λhnf=>by grind),(λ_ g=>by grind),(λ_ g=>by grind),λZ' z _=>⟨rfl,T,sv,B,⟨h2,λhn=>h3 λhzb=>hn (z T hzb)⟩,h4,k9.weaken h5 λb _ D J=>D (z b J)⟩⟩
    .exact d.elim
   .exact d.elim|po b f e c=>
   simp [e5a]at d;split at d
   .rename_i id;simp [Q.Ev]at d;split at d
    .rename_i e' c' l' n;split at d;.rename_i l A C;have B:=qC A;let⟨I,y⟩:=a3i (G:=noG) (w:=w) C;subst I;subst y;subst B;exact⟨_,[id],[],_,d,λ_=>(λ_ _ g=>by cases g),(λ_ g=>by grind),(λq g=>by simp_all),λZ' z _=>⟨id,rfl,F.2.1,n⟩⟩
     .exact d.elim
    .exact d.elim
   .exact d.elim|so e c=>
   simp [e5a]at d;split at d
   .rename_i id;simp [Q.Ev]at d;split at d
    .rename_i e' c' l' n;split at d;.rename_i l A C;have B:=qC A;let⟨I,y⟩:=a3i (G:=noG) (w:=w) C;subst I;subst y;subst B;exact⟨_,[id],[],_,d,λ_=>(λ_ _ g=>by cases g),(λ_ g=>by grind),(λq g=>by simp_all),λZ' z _=>⟨id,rfl,F.2.1,n⟩⟩
     .exact d.elim
    .exact d.elim
   .exact d.elim|im t c mm=>
   simp [e5a]at d;split at d
   .rename_i id;simp [Q.Ev]at d;split at d
    .rename_i t' c' fs n;split at d
     .rename_i x o W;simp only[qB]at o;have B:=qC o.1.1;subst B;have h2:=c0a o.1.2;subst h2;refine⟨x,[id],[],_,d,λ_=>(λ_ _ g=>by cases g),(λ_ g=>by cases g),(λq g=>by simp_all),λZ' z _=>⟨id,fs,rfl,F.2.1,n,W,λf k hk=>?_⟩⟩;have S:=qX.1 o.2 _ hk;split at S;.rename_i i j hi hj;have hij:=qC S;subst hij;let⟨uk,huk,hrk⟩:=hall.get hj;exact⟨i,c1y hi,by rw[huk,hrk.2.1];rfl⟩
      grind
     .exact d.elim
    .exact d.elim
   .exact d.elim|io t c=>
   simp [e5a]at d;split at d
   .rename_i id;simp [Q.Ev]at d;split at d
    .rename_i t' b0 n;split at d
     .rename_i A;have B:=qC A;subst B;have hm:=h.mem id;rw[n]at hm;let⟨x,K,R,d,hf,blk,u1,M,hM,V⟩:=g00 Y h hm d;refine⟨x,[id],K,_,d,λ_=>hf,(λq g=>?_),(λq g=>by simp_all),λZ' z D=>⟨id,b0,rfl,F.2.1,n,?_⟩⟩;.let⟨e,c1,l1,B,_⟩:=hf q.1 q.2 g;simp_all
      .let⟨u2,hu2,hr2⟩:=a18 (V Z' z D);exact⟨blk,u2,F.2.1.trans M,by rw[hu2];exact hM,hr2⟩
     .exact d.elim
    .exact d.elim
   .exact d.elim
def f1q(F:UOK U)(h:Rel E Z π σ ρ w){C:Bool}{r:O U.AV}{B:O A5}(e:y7 (AVR (cx Z π σ w)) r B):∀{ps:O (PK U.C)}{as:O U.AV}{us:O A5}{k:Args U ps->O (O Nat)->O (Nat×U.MC)->U.Q}{m0 m:Nat}{v:U.AV}{ws:O (Nat×U.MC)},y7 (AVR (cx Z π σ w)) as us->(g55 C r ps as k).Ev σ m0 m v ws->∃t o l G,(k t o l).Ev σ G m v ws/\(C=true->FZ σ l)/\(∀q∈l,σ.mem q.1≠.never)/\(∀i∈o,∀id∈i,σ.mem id≠.never)/\∀Z',(∀b,Z b->Z' b)->(∀b,b50 σ π l b->Z' b)->ARs σ π (cz Z' w) B ps us t o
 |[],[],[],k,m0,m,v,ws,_,c=>⟨(),[],[],m0,c,λ_=>(λ_ _ d=>by grind),(λ_ d=>by grind),(λ_ d=>by grind),λ_ _ _=>trivial⟩|p::ps,a::as,u::us,k,m0,m,v,ws,g,c=>by
   let ⟨x,i,l,G,c,J,N,S,R⟩:=g8a F h e g.1 c;let ⟨t,o,z,K,c,Q,I,L,M⟩:=f1q F h e g.2 c;refine⟨(x,t),i::o,l++z,K,c,λs id m d=>?_,λq d=>?_,λj n=>?_,λZ' D A=>⟨R Z' D λb⟨q,y,f⟩=>A b ⟨q,mem_append_left _ y,f⟩,M Z' D λb⟨q,y,f⟩=>A b ⟨q,mem_append_right _ y,f⟩⟩⟩
   .rcases qK.1 d with d|d;.exact J s id m d
    .exact Q s id m d
   .rcases qK.1 d with d|d;.exact N q d
    .exact I q d
   .rcases qO.1 n with n|n;.subst n;omega
    .exact L j n|[],_::_,_,_,_,_,_,_,_,c=>c.elim|_::_,[],_,_,_,_,_,_,_,c=>c.elim|[],[],_::_,_,_,_,_,_,g,_=>g.elim|_::_,_::_,[],_,_,_,_,_,g,_=>g.elim
def g9f(h:Rel E Z π σ ρ w):∀{ps:O (PK U.C)}{as:O U.AV}{k:O U.AV->U.Q}{m0 m:Nat}{v:U.AV}{ws:O (Nat×U.MC)},(f9j ps as k).Ev σ m0 m v ws->∃j vs o,y7 (AVR (cx Z π σ w)) j vs/\(k j).Ev σ o m v ws:=by intro ps;induction ps with|nil=>intro as k m0 m v ws d;exact⟨[],[],m0,trivial,by simp_all[f9j]⟩|cons p ps z=>
   intro as k m0 m v ws d;cases as with|nil=>
     have e:f9j (p::ps) [] k=k []:=by cases p<;>rfl
     rw[e]at d;exact⟨[],[],m0,trivial,d⟩|cons a as=>
     have f:(f9j ps as k).Ev σ m0 m v ws->∃j vs o,y7 _ j vs/\(k j).Ev σ o m v ws:=λh=>z h
     cases p with|im t c L=>
       cases a<;>try exact f d
       rename_i D;have G:=h.mem D;have d:(match σ.mem D with|.box _ (.st _ C)=>f9j ps as _|_=>.fail).Ev σ _ m v ws:=d;split at d
       .rename_i Y T C x;let ⟨j,vs,o,Q,N⟩:=z d;rw[x]at G;let ⟨M,u,X,W,H,V,F,K,R⟩:=G;have r:∀l:O _,∃vs:O A5,y7 (AVR (cx Z π σ w)) (l.filterMap λ(q:Nat×Nat)=>(c71 C q.1).map (AV.ref:Nat->U.AV)) vs:=by intro l;induction l with|nil=>exact⟨[],trivial⟩|cons q l z=>let ⟨vs,n⟩:=z;cases g:c71 C q.1with|none=>exact⟨vs,by simpa[g]using n⟩|some i=>let ⟨s,S,J,I,A⟩:=R.get (c1y g);refine⟨J::vs,?_⟩;simp [filterMap_cons,g,Option.map_some];exact⟨A,n⟩
        let ⟨B,y⟩:=r L;exact⟨_,B++vs,o,a87 y Q,N⟩
       .exact d.elim|_=>exact f (by cases a<;>exact d)
end
end
section
variable {P:Program} {U:Uni}
variable {E:Env} {Z:Nat -> Prop} {π:Nat -> A5} {σ:U.St} {ρ:Nat -> A5} {w:World}
variable {m0 m:Nat} {a b v:U.AV} {ws:O (Nat×U.MC)} {fr:Nat}
def y8{k t:Nat}{a:U.AV}{l:O (Nat×U.AV)}{me:O (Nat×U.MC)}{nx:Nat}:St.slot ⟨(k,a)::l,me,nx⟩ t=if k=t then a else St.slot ⟨l,me,nx⟩ t:=by simp [St.slot,lk];cases c:Nat.beq k t with|true=>simp_all|false=>simp_all[if_neg,Nat.ne_of_beq_eq_false]
def mem_cons{k t:Nat}{a:U.MC}{l:O (Nat×U.AV)}{me:O (Nat×U.MC)}{nx:Nat}:St.mem ⟨l,(k,a)::me,nx⟩ t=if k=t then a else St.mem ⟨l,me,nx⟩ t:=by simp [St.mem,lk];cases c:Nat.beq k t with|true=>simp_all|false=>simp_all[if_neg,Nat.ne_of_beq_eq_false]
def g91{X X':Cx}{a:U.AV}{u:A5}(j:X'.w=X.w)(n:X'.Z=X.Z)(h:a1p X (.rp a) u):a1p X' (.rp a) u:=by
 let ⟨f,e,d,g,i,c,k⟩:=h;have l:X'.G=X.G:=by unfold Cx.G;grind
 exact⟨f,e,d,by simp_all,by simp_all,by simp_all,by simp_all⟩
def f9c{X X':Cx}(e:X'.w=X.w)(d:X'.Z=X.Z):∀(cs:O U.C)(x:CapT U cs)(vs:O A5),y7 (a1p X) (f3e cs x) vs->y7 (a1p X') (f3e cs x) vs|[],_,[],_=>trivial|[],_,_::_,h=>h.elim|_::_,_,[],h=>h.elim|c::cs,(x,i),u::g,h=>⟨g91 e d h.1,f9c e d cs i g h.2⟩
def g8m(hU:UOK U)(h:Rel E Z π σ ρ w){Zc:Nat->Prop}{D:Nat->A5}{X:Cx}(A:X.Z=Zc)(s:X.w=w)(h3:X.π=D){W:O A5}:∀(ps:O (PK U.C))(k:Nat)(us:O A5)(d:Args U ps)(K:O (O Nat)),ARs σ π (cz Zc w) W ps us d K->(∀(j:Nat)v,us[j]?=some v->D (k+j)=v)->(∀id,(a02 k ps d).mem id≠.never->X.us id)->∀t,AVR X ((a02 k ps d).slot t) (D t)
 |[],k,us,d,K,_,_,_,t=>trivial|p::ps,k,[],d,K,h,_,_,_=>h.elim|p::ps,k,u::us,(x,d),[],h,_,_,_=>h.elim|p::ps,k,u::us,(x,d),i::K,⟨B,F⟩,J,g,t=>by
   have z:D k=u:=by simpa using J 0 u rfl
   have y:=g8m hU h A s h3 ps (k+1) us d K F (λj v o=>by have:=J (j+1) v (by simp_all);rwa[show k+(j+1)=k+1+j by omega]at this);have V:∀{c:U.C}{x:U.T c}{u:A5},a1p (cz Zc w) (inj c x) u->AVR X (inj c x) u:=λhh=>AVR.of1 (b0h (a1w hU _ _).1 hh s (by rw[A];exactλ_ h=>h))
   cases p with|v c=>
     show AVR X (St.slot ⟨(k,inj c x)::(a02 (k+1) ps d).sl,_,_⟩ t) _;rw[y8];split;.rename_i e;subst e;rw[z];exact V B.2
     .exact y g t|ls c=>
     show AVR X (St.slot ⟨(k,.list c x)::(a02 (k+1) ps d).sl,_,_⟩ t) _;rw[y8];split;.rename_i e;subst e;rw[z];show k9 (Rp c) X.G X.w u x;unfold Cx.G;rw[s,A];exact B.2
     .exact y g t|rp H c=>
     show AVR X (St.slot ⟨(k,.rp (inj c x))::(a02 (k+1) ps d).sl,_,_⟩ t) _;rw[y8];split
     .rename_i e;subst e;rw[z];obtain⟨ad,L,o,hb,hg,R,F⟩:=B.2;refine⟨ad,L,o,?_,?_,?_,?_⟩;.rw[s];exact hb
      .unfold Cx.G;rw[A];exact hg
      .rw[s];exact R
      .unfold Cx.G;rw[s,A];exact F
     .exact y g t|ow e c=>
     have l:∀id,(a02 (k+1) ps d).mem id≠.never->X.us id:=λid q=>g id (by
      show St.mem ⟨_,(k,.sl e c x)::(a02 (k+1) ps d).me,_⟩ id≠_;rw[mem_cons];split;.grind
      .exact q);show AVR X (St.slot ⟨(k,.ref k)::(a02 (k+1) ps d).sl,_,_⟩ t) _;rw[y8];split
     .rename_i G;subst G;refine⟨g k ?_,by grind,?_⟩;.show St.mem ⟨_,(k,.sl e c x)::(a02 (k+1) ps d).me,_⟩ k≠_;rw[mem_cons,if_pos rfl];grind
      .rw[z];rcases B with⟨_,C,_⟩|⟨id,_,C,n⟩;.rw[C];rfl
       .obtain⟨ad,cap,o⟩:=e2e h (.inl ⟨e,n⟩);rw[C,o];rfl
     .exact y l t|io H c=>
     have l:∀id,(a02 (k+1) ps d).mem id≠.never->X.us id:=λid q=>g id (by
      show St.mem ⟨_,(k,.box H (inj c x))::(a02 (k+1) ps d).me,_⟩ id≠_;rw[mem_cons];split;.grind
      .exact q);show AVR X (St.slot ⟨(k,.ref k)::(a02 (k+1) ps d).sl,_,_⟩ t) _;rw[y8];split
     .rename_i G;subst G;refine⟨g k ?_,by grind,?_⟩;.show St.mem ⟨_,(k,.box H (inj c x))::(a02 (k+1) ps d).me,_⟩ k≠_;rw[mem_cons,if_pos rfl];grind
      .rw[z];obtain⟨id,b,_,C,n,_⟩:=B;have I:=h.mem id;rw[n]at I;obtain⟨T,u1,o,_⟩:=I;rw[C,o];rfl
     .exact y l t|im H c m=>
     have l:∀id,(a02 (k+1) ps d).mem id≠.never->X.us id:=λid q=>g id (by
      show St.mem ⟨_,(k,.box H (.st c (b8h m (U.flds c x))))::(a02 (k+1) ps d).me,_⟩ id≠_;rw[mem_cons];split;.grind
      .exact q);show AVR X (St.slot ⟨(k,.ref k)::(a02 (k+1) ps d).sl,_,_⟩ t) _;rw[y8];split
     .rename_i G;subst G;refine⟨g k ?_,by grind,?_⟩;.show St.mem ⟨_,(k,.box H (.st c (b8h m (U.flds c x))))::(a02 (k+1) ps d).me,_⟩ k≠_;rw[mem_cons,if_pos rfl];grind
      .rw[z];obtain⟨id,fs,_,C,n,_⟩:=B;have I:=h.mem id;rw[n]at I;obtain⟨T,u1,o,_⟩:=I;rw[C,o];rfl
     .exact y l t|so e c=>
     have l:∀id,(a02 (k+1) ps d).mem id≠.never->X.us id:=λid q=>g id (by
      show St.mem ⟨_,(k,.sl e c x)::(a02 (k+1) ps d).me,_⟩ id≠_;rw[mem_cons];split;.grind
      .exact q);show AVR X (St.slot ⟨(k,.ref k)::(a02 (k+1) ps d).sl,_,_⟩ t) _;rw[y8];split
     .rename_i G;subst G;refine⟨g k ?_,by grind,?_⟩;.show St.mem ⟨_,(k,.sl e c x)::(a02 (k+1) ps d).me,_⟩ k≠_;rw[mem_cons,if_pos rfl];grind
      .rw[z];obtain⟨id,_,C,n⟩:=B;obtain⟨ad,cap,o⟩:=e2e h (.inl ⟨e,n⟩);rw[C,o];rfl
     .exact y l t|po b f e c=>
     have l:∀id,(a02 (k+1) ps d).mem id≠.never->X.us id:=λid q=>g id (by
      show St.mem ⟨_,(k,.sl e c x)::(a02 (k+1) ps d).me,_⟩ id≠_;rw[mem_cons];split;.grind
      omega);exact y l t|cl f L=>
     show AVR X (St.slot ⟨(k,.clo f (f3e L x))::(a02 (k+1) ps d).sl,_,_⟩ t) _;rw[y8];split;.rename_i e;subst e;rw[z];obtain⟨_,vs,o,F⟩:=B;exact⟨vs,o,f9c (by rw[s];rfl) (by rw[A];rfl) L x vs F⟩
     .exact y g t|bn f c=>
     show AVR X (St.slot ⟨(k,.bnd f (inj c x))::(a02 (k+1) ps d).sl,_,_⟩ t) _;rw[y8];split;.rename_i e;subst e;rw[z];obtain⟨_,r,o,F⟩:=B;exact⟨r,o,b0h (a1w hU _ _).1 F s (by rw[A];exactλ_ h=>h)⟩
     .exact y g t|km g0 N=>
     show AVR X (St.slot ⟨(k,.km g0 N x)::(a02 (k+1) ps d).sl,_,_⟩ t) _;rw[y8];split;.rename_i e;subst e;rw[z];obtain⟨_,S,mb,o,⟨Q,q2⟩,⟨q3,q4⟩,Y,M,q7⟩:=B;exact⟨S,mb,o,⟨by rw[s];exact Q,by unfold Cx.G;rw[A];exact q2⟩,⟨by rw[s];exact q3,by unfold Cx.G;rw[A];exact q4⟩,by rw[s];exact Y,M,by rw[s];exact q7⟩
     .exact y g t|vl g0 N c=>
     show AVR X (St.slot ⟨(k,.vl g0 N c x)::(a02 (k+1) ps d).sl,_,_⟩ t) _;rw[y8];split;.rename_i e;subst e;rw[z];obtain⟨_,S,sv,o,⟨Q,q2⟩,Y,M⟩:=B;exact⟨S,sv,o,⟨by rw[s];exact Q,by unfold Cx.G;rw[A];exact q2⟩,by rw[s];exact Y,by unfold Cx.G;rw[s,A];exact M⟩
     .exact y g t
def g7i(hU:UOK U)(h:Rel E Z π σ ρ w){Zc:Nat->Prop}(Y:∀b,Z b->Zc b){o:Nat->A5}{X:Cx}(Q:X.Z=Zc)(D:X.w=w)(h3:X.π=o){all:O A5}(L:∀k u,all[k]?=some u->o k=u):∀(ps:O (PK U.C))(k:Nat)(us:O A5)(n:Args U ps)(N:O (O Nat)),ARs σ π (cz Zc w) all ps us n N->(∀(j:Nat)v,us[j]?=some v->o (k+j)=v)->(∀t c m q,.im t c m∈ps->q∈m->X.us q.2)->(∀id,MR X ((a02 k ps n).mem id) (o id))/\∀i b,MB ((a02 k ps n).mem i) (o i) b->∃j id,i=k+j/\N[j]?=some [id]/\MB (σ.mem id) (π id) b
 |[],k,us,n,N,_,_,_=>⟨λ_=>trivial,λ_ _ h=>h.elim⟩|p::ps,k,[],n,N,h,_,_=>h.elim|p::ps,k,u::us,(x,n),[],h,_,_=>h.elim|p::ps,k,u::us,(x,n),i::N,⟨I,F⟩,W,S=>by
   have H:o k=u:=by simpa using W 0 u rfl
   obtain⟨y,ih2⟩:=g7i hU h Y Q D h3 L ps (k+1) us n N F (λj v hv=>by have:=W (j+1) v (by grind);grind) (λt c m q C hq=>S t c m q (qJ _ C) hq);have l:∀s b,MB ((a02 (k+1) ps n).mem s) (o s) b->∃j id,s=k+j/\(i::N)[j]?=some [id]/\MB (σ.mem id) (π id) b:=λs b g=>by obtain⟨j,id,e,h3,h4⟩:=ih2 s b g;exact⟨j+1,id,by omega,by simpa using h3,h4⟩
   cases p with|v c=>exact⟨y,l⟩|ls c=>exact⟨y,l⟩|rp J c=>exact⟨y,l⟩|ow e c=>
     refine⟨λid=>?_,λs b g=>?_⟩
     .show MR X (St.mem ⟨_,(k,.sl e c x)::(a02 (k+1) ps n).me,_⟩ id) _;rw[mem_cons];split
      .rename_i A;subst A;rw[H];rcases I with⟨_,z,hl⟩|⟨id,_,z,d⟩;.subst hl;rw[z];exact⟨[],Own.nil _ _ _ _ _,trivial⟩
       .have C:=h.mem id;rw[d]at C;obtain⟨B,T,F⟩:=C;refine⟨B,by rw[z,D];exact T,F.mono λr xv R=>?_⟩;rw[D];unfold Cx.G;rw[Q];exact(Rp c).weaken R λb _ g G=>g (Y b G)
      .exact y id
     .have g:MB (St.mem ⟨(a02 k (.ow e c::ps) (x,n)).sl,(k,.sl e c x)::(a02 (k+1) ps n).me,(a02 (k+1) ps n).nx⟩ s) (o s) b:=g;rw[mem_cons]at g;split at g
      .rename_i A;subst A;rw[H]at g;rcases I with⟨_,z,hl⟩|⟨id,K,z,d⟩;.rw[z]at g;cases g
       .refine⟨0,id,by omega,by rw[K];rfl,?_⟩;rw[d,<-z];omega
      .exact l s b g|io J c=>
     refine⟨λid=>?_,λs b g=>?_⟩
     .show MR X (St.mem ⟨_,(k,.box J (inj c x))::(a02 (k+1) ps n).me,_⟩ id) _;rw[mem_cons];split;.rename_i A;subst A;rw[H];obtain⟨id,b,_,z,d,M,u1,hv,hM,F⟩:=I;exact⟨M,u1,hv,by rw[D];exact hM,b0h (X':=X) (a1w hU c x).1 F D (by rw[Q];exactλ_ g=>g)⟩
      .exact y id
     .have g:MB (St.mem ⟨(a02 k (.io J c::ps) (x,n)).sl,(k,.box J (inj c x))::(a02 (k+1) ps n).me,(a02 (k+1) ps n).nx⟩ s) (o s) b:=g;rw[mem_cons]at g;split at g;.rename_i A;subst A;rw[H]at g;obtain⟨id,b0,K,z,d,hp⟩:=I;refine⟨0,id,by omega,by rw[K];rfl,?_⟩;rw[d,<-z];exact g
      .exact l s b g|cl f cs=>exact⟨y,l⟩|bn f c=>exact⟨y,l⟩|km f t=>exact⟨y,l⟩|vl f t c=>exact⟨y,l⟩|po b0 f e c=>
     refine⟨λid=>?_,λs b g=>?_⟩
     .show MR X (St.mem ⟨_,(k,.sl e c x)::(a02 (k+1) ps n).me,_⟩ id) _;rw[mem_cons];split;.rename_i A;subst A;rw[H];obtain⟨id,_,z,d⟩:=I;have C:=h.mem id;rw[d]at C;obtain⟨B,T,F⟩:=C;refine⟨B,by rw[z,D];exact T,F.mono λr xv R=>?_⟩;rw[D];unfold Cx.G;rw[Q];exact(Rp c).weaken R λb _ g G=>g (Y b G)
      .exact y id
     .have g:MB (St.mem ⟨(a02 k (.po b0 f e c::ps) (x,n)).sl,(k,.sl e c x)::(a02 (k+1) ps n).me,(a02 (k+1) ps n).nx⟩ s) (o s) b:=g;rw[mem_cons]at g;split at g;.rename_i A;subst A;rw[H]at g;obtain⟨id,K,z,d⟩:=I;refine⟨0,id,by omega,by rw[K];rfl,?_⟩;rw[d,<-z];omega
      .exact l s b g|so e c=>
     refine⟨λid=>?_,λs b g=>?_⟩
     .show MR X (St.mem ⟨_,(k,.sl e c x)::(a02 (k+1) ps n).me,_⟩ id) _;rw[mem_cons];split;.rename_i A;subst A;rw[H];obtain⟨id,_,z,d⟩:=I;have C:=h.mem id;rw[d]at C;obtain⟨B,T,F⟩:=C;refine⟨B,by rw[z,D];exact T,F.mono λr xv R=>?_⟩;rw[D];unfold Cx.G;rw[Q];exact(Rp c).weaken R λb _ g G=>g (Y b G)
      .exact y id
     .have g:MB (St.mem ⟨(a02 k (.so e c::ps) (x,n)).sl,(k,.sl e c x)::(a02 (k+1) ps n).me,(a02 (k+1) ps n).nx⟩ s) (o s) b:=g;rw[mem_cons]at g;split at g;.rename_i A;subst A;rw[H]at g;obtain⟨id,K,z,d⟩:=I;refine⟨0,id,by omega,by rw[K];rfl,?_⟩;rw[d,<-z];omega
      .exact l s b g|im J c m=>
     refine⟨λid=>?_,λs b g=>?_⟩
     .show MR X (St.mem ⟨_,(k,.box J (.st c (b8h m (U.flds c x))))::(a02 (k+1) ps n).me,_⟩ id) _;rw[mem_cons];split
      .rename_i A;subst A;rw[H];obtain⟨id,fs,_,z,d,hp,hmm⟩:=I;have C:=h.mem id;rw[d]at C;obtain⟨M,u1,hv,hM,B,hu1,V,hpp,F⟩:=C;obtain⟨k1,k2,k3⟩:=d37 hU (X:=cx Z π σ w) (X':=X) V hpp F hp D (by rw[Q];exact Y) λj jd hj=>by obtain⟨j',hj1,hj2⟩:=hmm j jd hj;exact⟨j',hj1,S J c m _ qI hj,by rw[h3];exact L _ _ hj2⟩
       exact⟨M,u1,by rw[z];omega,by rw[D];exact hM,B,hu1,k1,k2,k3⟩
      .exact y id
     .have g:MB (St.mem ⟨(a02 k (.im J c m::ps) (x,n)).sl,(k,.box J (.st c (b8h m (U.flds c x))))::(a02 (k+1) ps n).me,(a02 (k+1) ps n).nx⟩ s) (o s) b:=g;rw[mem_cons]at g;split at g;.rename_i A;subst A;rw[H]at g;obtain⟨id,fs,K,z,d,hp,_⟩:=I;refine⟨0,id,by omega,by rw[K];rfl,?_⟩;rw[d,<-z];exact g
      .exact l s b g
def b9f:∀{l:O (O Nat)},c6k l=true->∀(i j:Nat)(p q:O Nat)(a b:Nat),l[i]?=some p->l[j]?=some q->a∈p->b∈q->i≠j->a≠b
 |[],_,i,j,p,q,a,b,f,_,_,_,_=>by simp_all|t::l,h,i,j,p,q,a,b,f,o,k,n,s=>by
   simp only[c6k,qB]at h;have c:∀(p q:O Nat)(j a b:Nat),p=t->l[j]?=some q->a∈p->b∈q->a≠b:=by intro p q j a b y g d r e;subst e;rw[y]at d;have x:=qX.1 (qX.1 (qX.1 h.1 a d) q (qE g)) a r;simp at x
   cases i with
   |zero=>cases j with|zero=>omega|succ j=>exact c p q j a b (by simpa using f.symm) (by simpa using o) k n
   |succ i=>cases j with|zero=>exactλe=>c q p i b a (by simpa using o.symm) (by simpa using f) n k e.symm|succ j=>exact b9f h.2 i j p q a b (by simpa using f) (by simpa using o) k n (λe=>s (by rw[e]))
def memK{C:Type}:PK C->Bool|.ow _ _|.io _ _|.im _ _ _|.po _ _ _ _|.so _ _=>true|_=>false
def c52:∀(ps:O (PK U.C))(k:Nat)(d:Args U ps)(id:Nat)(p:PK U.C),ps[id-k]?=some p->memK p=true->k<=id->b7a (a02 k ps d) id
 |[],k,d,id,p,h,_,_=>by grind|n::ps,k,(x,d),id,p,h,i,t=>by
   have c:id≠k->b7a _ id:=λf=>by rw[show id-k=(id-(k+1))+1by omega]at h;exact c52 ps (k+1) d id p (by simp_all) i (by omega)
   have l:∀(g:U.MC)(o:O _)(j:Nat),g≠.never->(id≠k->b7a _ id)->St.mem ⟨o,(k,g)::(a02 (k+1) ps d).me,j⟩ id≠.never:=λg o j q s=>by
    rw[mem_cons];split;.omega
    .rename_i f;exact s (Ne.symm f)
   by_cases e:id=k;.subst e;simp at h;subst h;cases n<;>first|(cases i;done)|exact l _ _ _ (λh=>by grind) c
   .cases n<;>first|exact (c e)|exact l _ _ _ (λh=>by grind) c
def g2v(ps:O (PK U.C))(d:Args U ps)(id:Nat)(h:c0f ps id):b7a (a02 0 ps d) id:=by
 rcases h with⟨t,c,h⟩|⟨t,c,m,h⟩|⟨e,c,h⟩;.exact c52 ps 0 d id _ (by omega) rfl (by omega)
 .exact c52 ps 0 d id _ (by omega) rfl (by omega)
 .exact c52 ps 0 d id _ (by omega) rfl (by omega)
def e3z:∀(ps:O (PK U.C))(k:Nat)(d:Args U ps)(t:Nat),(a02 k ps d).slot t=.unk\/∃p,k<=t/\ps[t-k]?=some p/\d4j p=false
 |[],k,d,t=>.inl rfl|e::ps,k,(x,d),t=>by
   have c:(a02 (k+1) ps d).slot t=.unk\/∃p,k<=t/\(e::ps)[t-k]?=some p/\d4j p=false:=by
    rcases e3z ps (k+1) d t with h|⟨p,o,q,i⟩;.simp_all
    .refine .inr ⟨p,by omega,?_,i⟩;rw[show t-k=(t-(k+1))+1by omega];simp_all
   have l:∀(a:U.AV)(f:O _)(g:Nat),d4j e=false->St.slot ⟨(k,a)::(a02 _ ps d).sl,f,g⟩ t=.unk\/∃p,k<=t/\(e::ps)[t-k]?=some p/\d4j p=false:=λa f g n=>by
    rw[y8];split;.simp_all
    .exact c
   cases e<;>first|exact l _ _ _ rfl|exact c
def c5s{d:O (PK U.C)}:∀(ps:O (PK U.C))(i:Nat),c2u d i ps=true->∀t c m q,.im t c m∈ps->q∈m->∃b f e g,d[q.2]?=some (.po b f e g)
 |[],i,_,t,c,m,q,h,_=>by grind|l::ps,i,h,t,c,m,q,k,j=>by
   rcases qO.1 k with e|e
   .subst e;simp only[c2u,qB]at h;have o:=qX.1 h.1 q j;split at o;.rename_i b f e g n;exact⟨b,f,e,g,n⟩
    grind
   .exact c5s ps _ (by cases l<;>first|exact h|(simp [c2u,qB]at h;grind)) t c m q e j
def e5l{ps:O (PK U.C)}(h:h0i ps=true){t:Nat}{p:PK U.C}(d:ps[t]?=some p)(hn:d4j p=false):t<npK ps:=by
 rcases Nat.lt_or_ge t _ with c|c;.omega
 .have:p∈ps.drop (npK ps):=by refine qE (i:=t-npK ps) ?_;simp_all
  have:=qX.1 h p this;simp_all
def f2x(N:UOK U)(h:Rel E Z π σ ρ w){y:O (Nat×U.MC)}{ps:O (PK U.C)}{us:O A5}{s:Args U ps}{z:O (O Nat)}{g ρs:Nat->A5}(n:b4o ps=true)(S:∀t,t<npK ps->ρs t=g t)(V:∀q∈y,σ.mem q.1≠.never)(T:∀Z',(∀b,Z b->Z' b)->(∀b,b50 σ π y b->Z' b)->ARs σ π (cz Z' w) us ps us s z)(B:c6k (z++[y.map (·.1)])=true)(J:∀(j:Nat)v,us[j]?=some v->g j=v):Rel ⟨w,λb=>∃i∈z,∃id∈i,MB (σ.mem id) (π id) b,λb=>Z b\/b50 σ π y b,c0f ps,g⟩ (λb=>Z b\/b50 σ π y b) g (a02 0 ps s) ρs w:=by
 unfold b4o at n;simp [qB]at n;have C:=T (λb=>Z b\/b50 σ π y b) (λb h=>.inl h) (λb h=>.inr h);have o:∀(j:Nat)v,us[j]?=some v->g (0+j)=v:=by grind
 obtain⟨Y,K⟩:=g7i N h (λb d=>Or.inl d) (X:=cx _ g _ w) rfl rfl rfl J ps 0 us s z C o (λt c m q hm G=>by let ⟨b,f,e,c',hx⟩:=c5s ps 0 n.1 t c m q hm G;exact c52 ps 0 s q.2 _ (by omega) rfl (by omega));refine⟨λt=>?_,Y,λid b d=>?_,λid L b hne d r=>?_,λb d=>?_,λb d=>.inl d,λb d=>d,Ext.refl _ _,λid Q=>⟨g2v ps s id Q,rfl⟩,h.tabw N,λb d=>⟨Nat.lt_of_lt_of_le (h.tab.2 b d).1 h.ext.size,?_⟩⟩
 .rcases e3z ps 0 s t with R|⟨p,_,u,F⟩;.rw[R];trivial
  .rw[S t (e5l n.2 (by omega) F)];exact g8m N h rfl rfl rfl ps 0 us s z C o (λ_ h=>h) t
 .let ⟨j,l,_,A,k⟩:=K id b d;let ⟨u,F,_⟩:=h.own l b k;refine⟨?_,F,.inl ⟨_,qE A,l,by simp,k⟩⟩;rintro(W|⟨q,G,I⟩);.exact u W
  .exact h.dist l q.1 b (by
    refine b9f B j z.length [l] _ l q.1 ?_ ?_ (by simp) (mem_map_of_mem G) ?_;.rw[getElem?_append_left (qD.1 A).1];omega
    .simp
    .exact Nat.ne_of_lt (qD.1 A).1) k I
 .let ⟨j,H,e,A,k⟩:=K id b d;let ⟨j',x,e',M,D⟩:=K L b r;exact h.dist H x b (by
   refine b9f B j j' [H] [x] H x ?_ ?_ (by simp) (by simp) (by omega);.rw[getElem?_append_left (qD.1 A).1];omega
   .rw[getElem?_append_left (qD.1 M).1];omega) k D
 .rcases d with d|⟨q,G,d⟩;.exact h.zlt b d
  .exact(h.own q.1 b d).2.1
 .rintro⟨i,_,id,_,r⟩;have u:=(h.own id b r).2.2;have F:=h.tab.2 b d;rcases u with u|u;.exact F.2 u
  omega
end
section
variable {P:Program} {U:Uni}
variable {E:Env} {Z:Nat -> Prop} {π:Nat -> A5} {σ:U.St} {ρ:Nat -> A5} {w:World}
variable {m0 m:Nat} {a b v:U.AV} {ws:O (Nat×U.MC)} {fr:Nat}
def f8l(f:UOK U){X X':Cx}{c:U.C}{x:U.T c}(j:U.flat c=true){u:A5}(h:a1p X (inj c x) u):a1p X' (inj c x) u:=by unfold inj at h⊢;cases g:U.ag c with|true=>rw[g]at h;let ⟨l,n,k⟩:=h;exact⟨l,n,d4n f j k⟩|false=>rw[g]at h;have e:=f.flat c x j;cases i:U.flds c x with|nil=>trivial|cons a r=>cases r with|cons _ _=>trivial|nil=>rw[i]at h e;have d:=f.lay c x;rw[f.sc c g,i]at d;cases a<;>first|exact h|(cases e)|(simp[a07]at d)
def g20(c:Bool)(X X':Cx):Prop:=X'.w=X.w/\(c=true->∀b,X.Z b->X'.Z b)
def e3w(e:UOK U){d:Bool}{X X':Cx}(f:g20 d X X'){c:U.C}{x:U.T c}(g:d=false->U.flat c=true){u:A5}(h:a1p X (inj c x) u):a1p X' (inj c x) u:=by cases d with|true=>exact b0h (a1w e c x).1 h f.1 (f.2 rfl)|false=>exact f8l e (g rfl) h
def d9i(o:UOK U){f:Bool}{X X':Cx}(d:g20 f X X'){e:TypeId}{c:U.C}{l:O (U.T c)}(k:f=false->U.flat c=true){u:A5}(h:MR X (.sl e c l) u):MR X' (.sl e c l) u:=by let ⟨g,q,n⟩:=h;refine⟨g,by rw[d.1];omega,n.mono λr x i=>?_⟩;cases f with|true=>rw[d.1];exact(Rp c).weaken i λb _ p j=>p (d.2 rfl b j)|false=>exact d4n o (k rfl) i
def e3s(k:UOK U){e:Bool}{X X':Cx}(d:g20 e X X'){t:TypeId}{c:U.C}{x:U.T c}(g:e=false->U.flat c=true){u:A5}(h:MR X (.box t (inj c x)) u):MR X' (.box t (inj c x)) u:=by let ⟨b,j,i,l,f⟩:=h;exact⟨b,j,i,by rw[d.1];omega,e3w k d g f⟩
def d22(z:UOK U){G:Bool}{X X':Cx}(j:g20 G X X'):∀(d:O (RK U.C))(fr:Nat)(f:Ress U d)(us:O A5),(G=false->d.all e8u=true)->RRs X d f us->y7 (λ(q:Nat×U.MC)u=>MR X' q.2 u/\q.2≠.never) (d23 fr d f).2 (c59 d us)/\(∀(p:Nat)q,(d23 fr d f).2[p]?=some q->q.1=fr+p)/\((∀(p:Nat)u,(c59 d us)[p]?=some u->X'.us (fr+p)/\X'.π (fr+p)=u)->y7 (a1p X') (d23 fr d f).1 us)
 |[],fr,f,[],_,_=>⟨trivial,λp q h=>by simp[d23]at h,λ_=>trivial⟩|r::d,fr,f,[],_,h=>h.elim|[],fr,f,_::_,_,h=>h.elim|.v c::d,fr,(x,f),u::us,y,h=>by let ⟨n,o,l⟩:=d22 z j d fr f us (λe=>by simp_all) h.2;exact⟨n,o,λi=>⟨e3w z j (λe=>by have:=y e;simp [all_cons,qB]at this;exact this.1) h.1,l i⟩⟩|.ls c::d,fr,(x,f),u::us,y,h=>by let ⟨n,o,l⟩:=d22 z j d fr f us (λe=>by simp_all) h.2;refine⟨n,o,λi=>⟨?_,l i⟩⟩;cases G with|false=>have:=y rfl;simp [all_cons,qB]at this;cases this.1|true=>show k9 _ _ _ u x;rw[j.1];exact k9.weaken h.1 λb _ M I=>M (j.2 rfl b I)
 |.ow e c::d,fr,(x,f),u::us,y,h=>by
   obtain⟨n,o,l⟩:=d22 z j d _ f us (λe=>by simp_all) h.2;have A:=d9i z j (λe=>by have:=y e;simp [all_cons,qB]at this;exact this.1) h.1;refine⟨⟨⟨A,λh=>by grind⟩,n⟩,λp q s=>?_,λi=>⟨?_,l λp B g=>?_⟩⟩;.cases p with|zero=>cases s;rfl|succ p=>have:=o p q s;omega
   .let ⟨F,D⟩:=i 0 u rfl;let ⟨L,K,_⟩:=A;let ⟨N,J,H,_⟩:=K.shape;exact⟨F,D.symm,by rw[H];rfl⟩
   .have:=i (p+1) B g;rwa[show fr+(p+1)=fr+1+p by omega]at this|.bo t c::d,fr,(some x,f),u::us,y,h=>by
   obtain⟨n,o,l⟩:=d22 z j d _ f us (λe=>by simp_all) h.2;have C:=e3s z j (λe=>by have:=y e;simp [all_cons,qB]at this;exact this.1) h.1;refine⟨⟨⟨C,λh=>by grind⟩,n⟩,λp q s=>?_,λi=>⟨?_,l λp B g=>?_⟩⟩;.cases p with|zero=>cases s;rfl|succ p=>have:=o p q s;omega
   .let ⟨F,D⟩:=i 0 u rfl;let ⟨Q,R,H,_⟩:=C;exact⟨F,D.symm,by rw[H];rfl⟩
   .have:=i (p+1) B g;rwa[show fr+(p+1)=fr+1+p by omega]at this|.bo t c::d,fr,(none,f),u::us,y,h=>by
   obtain⟨n,o,l⟩:=d22 z j d _ f us (λe=>by simp_all) h.2;refine⟨⟨⟨trivial,λh=>by grind⟩,n⟩,λp q s=>?_,λi=>⟨h.1,l λp B g=>?_⟩⟩;.cases p with|zero=>cases s;rfl|succ p=>have:=o p q s;omega
   .have:=i (p+1) B g;rwa[show fr+(p+1)=fr+1+p by omega]at this
def f3u(f:UOK U){X X':Cx}{a:U.AV}(c:h08 a=true){u:A5}(h:b79 X a u):b79 X' a u:=by cases a<;>first|(cases c;done)|exact h|(let ⟨e,d,g⟩:=h;exact⟨e,d,d4n f c g⟩)
def e2i(g:Nat->Nat):∀(m:O (Nat×Nat))(l:O U.AV)(j:Nat),(∃k,(j,k)∈m/\(j<l.length->(b8h m l)[j]?=some (.ref k)/\(b8h (m.map λq=>(q.1,g q.2)) l)[j]?=some (.ref (g k))))\/((b8h m l)[j]?=l[j]?/\(b8h (m.map λq=>(q.1,g q.2)) l)[j]?=l[j]?)
 |[],l,j=>.inr ⟨rfl,rfl⟩|q::m,l,j=>by
   by_cases e:q.1=j;.left;subst e;exact⟨q.2,qI,λd=>by simp[b8h,b6d,d]⟩
   .rcases e2i g m l j with⟨k,c,h⟩|⟨c,h⟩;.left;refine⟨k,qJ _ c,λd=>?_⟩;simp [b8h,map_cons];simp_all
    .simp [b8h,map_cons];simp_all
def e40:∀(m:O (Nat×Nat))(l:O U.AV)(j k:Nat),(j,k)∈m->j<l.length->∃f,(b8h m l)[j]?=some (.ref f)
 |q::m,l,j,k,h,c=>by
   simp [b8h];by_cases e:q.1=j;.exact⟨q.2,by rw[e,getElem?_set_self (by rw[b6d];omega)]⟩
   .rw[getElem?_set_ne e];exact e40 m l j k ((qO.1 h).resolve_left λg=>e (by grind)) c
def g5l(F:UOK U){H:Bool}{X X':Cx}(G:g20 H X X'){t:TypeId}{c:U.C}{x:U.T c}{m:O (Nat×Nat)}(g:Nat->Nat)(p:H=false->d0c (.im t c m:PK U.C)=true){u:A5}(Q:∀q∈m,X'.us (g q.2)/\X'.π (g q.2)=X.π q.2)(h:MR X (.box t (.st c (b8h m (U.flds c x)))) u):MR X' (.box t (.st c (b8h (m.map λq=>(q.1,g q.2)) (U.flds c x)))) u:=by
 let ⟨b,u1,Y,hM,K,f,y,W,M⟩:=h;have l:∀(j:Nat)(a:U.AV),(b8h (m.map λq=>(q.1,g q.2)) (U.flds c x))[j]?=some a->∃z,(b8h m (U.flds c x))[j]?=some z/\a07 a=a07 z/\a03 a=true/\∀u,b79 X z u->b79 X' a u:=by
  intro j a d;have B:=by have:=(qD.1 d).1;rwa[b6d]at this
  rcases e2i g m _ j with⟨k,i,o⟩|⟨i,o⟩;.let ⟨D,V⟩:=o B;rw[V]at d;cases d;refine⟨_,D,rfl,rfl,λu f=>?_⟩;let ⟨S,k2⟩:=Q _ i;let ⟨_,k4,R⟩:=f;exact⟨S,by grind,R⟩
  .rw[o]at d;have n:=qX.1 (F.kind c x) a (qE d);have A:a03 a=true:=by cases a<;>first|rfl|cases n
   refine⟨a,by grind,rfl,A,λu f=>?_⟩;cases H with|true=>exact a1p.to0 A (b0h n (.of0 f) G.1 (G.2 rfl))|false=>
     have p:=p rfl;simp only[d0c,Bool.or_eq_true,qB,any_eq_true]at p;rcases p with p|⟨L,q,hq,N⟩;.exact f3u F (qX.1 (F.flat c x p) a (qE d)) f
     .have N:=qC N;have D:=congrArg List.length (F.lay c x);unfold f9n at L;split at L;case h_2=>grind
      rename_i J;rw[J,List.length_map]at D
      have:j=0:=by have:j<1:=by rw[D]at B;omega
                   omega
      subst this;let ⟨k',C⟩:=e40 m _ 0 q.2 (by grind) B;rw[i,d]at C;cases C;cases n
 have e:(b8h (m.map λq=>(q.1,g q.2)) (U.flds c x)).length=(b8h m (U.flds c x)).length:=by rw[b6d,b6d]
 refine⟨b,u1,Y,by rw[G.1];omega,K,f,?_,?_,?_⟩;.rw[<-y];apply ext_getElem?;intro j;rw[getElem?_map,getElem?_map];cases d:(b8h _ _)[j]?with|some a=>let ⟨z,i,o,_⟩:=l j a d;rw[i];simp[o]|none=>have:=List.getElem?_eq_none_iff.1 d;rw[e]at this;rw[getElem?_eq_none this]
 .rw[qX];intro a d;let ⟨j,B⟩:=getElem?_of_mem d;exact(l j a B).choose_spec.2.2.1
 .refine y7.of_get (by rw[e];exact M.length) λj a s d T=>?_;let ⟨z,i,_,_,o⟩:=l j a d;let ⟨s',r,u,f,I⟩:=M.get i;rw[T]at r;cases r;exact⟨u,f,o u I⟩
def f7v{m:U.MC}{v:A5}{b:Nat}(h:MB m v b):hdV v=some b:=by cases m<;>first|exact h|exact h.elim
def e83(D:UOK U){S:Bool}{X X':Cx}(C:g20 S X X'){Xc:Cx}{b:Nat}{L K:O A5}:∀(ps:O (PK U.C))(k:Nat)(z:Args U ps)(A:O (O Nat))(os:Outs U ps)(us g:O A5),(S=false->ps.all d0c=true)->ARs σ π Xc L ps us z A->OR X ps os g->(∀(i:Nat)(p:PK U.C),ps[i]?=some p->d4j p=false->g[i]?=us[i]?)->(∀(i:Nat)u,g[i]?=some u->K[k+i]?=some u)->(∀t c m q,.im t c m∈ps->q∈m->X'.us (b+q.2)/\X'.π (b+q.2)=X.π q.2)->y7 (λ(q:Nat×U.MC)u=>MR X' q.2 u/\q.2≠.never/\((u=π q.1/\σ.mem q.1≠.never)\/∃j,q.1=b+k+j/\K[k+j]?=some u/\∃p,ps[j]?=some p/\d4j p=true)) (b70 b k ps A os) (ioB ps g)
 |[],k,z,[],os,[],[],_,_,_,_,_,_=>trivial|[],k,z,A,os,_::_,g,_,h,_,_,_,_=>by cases A<;>exact h.elim|[],k,z,_::_,os,[],g,_,h,_,_,_,_=>h.elim|[],k,z,[],os,[],_::_,_,_,h,_,_,_=>h.elim|_::_,k,z,A,os,[],g,_,h,_,_,_,_=>by cases A<;>exact h.elim|_::_,k,(x,z),[],os,_::_,g,_,h,_,_,_,_=>h.elim|p::ps,k,(x,z),i::A,os,u::us,[],V,h,l,_,_,_=>by cases p<;>exact l.elim|p::ps,k,(x,z),i::A,os,u::us,Y::g,V,h,l,s,H,F=>by
   have y:=λe=>by have:=V e;simpa only[all_cons,qB]using this
   have d:∀B,OR X ps B g->y7 (λ(q:Nat×U.MC)u=>MR X' q.2 u/\q.2≠.never/\((u=π q.1/\σ.mem q.1≠.never)\/∃j,q.1=b+k+j/\K[k+j]?=some u/\∃I,(p::ps)[j]?=some I/\d4j I=true)) _ _:=λB R=>by
    have:=e83 D C ps _ z A B us g (λe=>(y e).2) h.2 R (λi p J N=>by have:=s (i+1) p (by simpa using J) N;simpa using this) (λi v hv=>by have:=H (i+1) v (by simpa using hv);rwa[show k+(i+1)=k+1+i by omega]at this) (λt c m q hm M=>F t c m q (qJ _ hm) M);refine this.mono λq v⟨h1,h2,Q⟩=>⟨h1,h2,?_⟩;rcases Q with Q|⟨j,e1,e2,I,e3,e4⟩;.exact .inl Q
    .exact .inr ⟨j+1,by omega,by rwa[show k+(j+1)=k+1+j by omega],I,by simpa using e3,e4⟩
   have r:=λN=>by have:=s 0 p rfl N;simpa using this
   cases p with|v c=>exact d os l|ls c=>exact d os l|rp t c=>exact d os l|ow e c=>exact d os l|cl f cs=>exact d os l|bn f c=>exact d os l|km f t=>exact d os l|vl f t c=>exact d os l|io t c=>obtain⟨o,os⟩:=os;obtain⟨W,b0,G,T,n,J⟩:=h.1;subst G;refine⟨⟨e3s D C (λe=>(y e).1) l.1,(λh=>by cases h),.inl ⟨by rw[r rfl];omega,?_⟩⟩,d os l.2⟩;rw[n];intro h;cases h|im t c m=>obtain⟨o,os⟩:=os;obtain⟨W,fs,G,T,n,J,_⟩:=h.1;subst G;refine⟨⟨g5l D C _ (λe=>(y e).1) (λq M=>F t c m q qI M) l.1,(λh=>by cases h),.inl ⟨by rw[r rfl];omega,?_⟩⟩,d os l.2⟩;rw[n];intro h;cases h|so e c=>obtain⟨o,os⟩:=os;obtain⟨W,G,T,n⟩:=h.1;subst G;refine⟨⟨d9i D C (λe=>(y e).1) l.1,(λh=>by cases h),.inl ⟨by rw[r rfl];omega,?_⟩⟩,d os l.2⟩;rw[n];intro h;cases h|po b0 f e c=>obtain⟨o,os⟩:=os;exact⟨⟨d9i D C (λe=>(y e).1) l.1,(λh=>by cases h),.inr ⟨0,by simp,H 0 Y rfl,_,rfl,rfl⟩⟩,d os l.2⟩
def b0c{z:Cx}{b:Nat}{r:O A5}:∀(ps:O (PK U.C))(k:Nat)(l:Args U ps)(j:O (O Nat))(os:Outs U ps)(us:O A5),ARs σ π z r ps us l j->∀i∈j,∀id∈i,(∃m,(id,m)∈b70 b k ps j os)\/id∈e07 ps j
 |[],k,l,[],os,[],_,i,q,_,_=>by grind|[],k,l,_::_,os,[],h,_,_,_,_=>h.elim|[],k,l,j,os,_::_,h,_,_,_,_=>by cases j<;>exact h.elim|_::_,k,l,j,os,[],h,_,_,_,_=>by cases j<;>exact h.elim|_::_,k,(x,l),[],os,_::_,h,_,_,_,_=>h.elim|p::ps,k,(x,l),A::j,os,u::us,h,i,q,id,d=>by
   rcases qO.1 q with e|q;.subst e;cases p with|v c=>rw[h.1.1]at d;grind|ls c=>rw[h.1.1]at d;grind|rp t c=>rw[h.1.1]at d;grind|cl f y=>rw[h.1.1]at d;grind|bn f c=>rw[h.1.1]at d;grind|km f t=>rw[h.1.1]at d;grind|vl f t c=>rw[h.1.1]at d;grind|ow e c=>exact .inr (mem_append_left _ d)|po s f e c=>exact .inr (mem_append_left _ d)|io t c=>exact .inl ⟨_,mem_append_left _ (mem_map_of_mem d)⟩|so e c=>exact .inl ⟨_,mem_append_left _ (mem_map_of_mem d)⟩|im t c m=>exact .inl ⟨_,mem_append_left _ (mem_map_of_mem d)⟩
   .cases p with|v c=>exact b0c ps _ l j os us h.2 i q id d|ls c=>exact b0c ps _ l j os us h.2 i q id d|rp t c=>exact b0c ps _ l j os us h.2 i q id d|cl f y=>exact b0c ps _ l j os us h.2 i q id d|bn f c=>exact b0c ps _ l j os us h.2 i q id d|km f t=>exact b0c ps _ l j os us h.2 i q id d|vl f t c=>exact b0c ps _ l j os us h.2 i q id d|ow e c=>exact(b0c ps _ l j os us h.2 i q id d).imp_right λn=>mem_append_right _ n|po s f e c=>
      let ⟨o,os⟩:=os;rcases b0c ps _ l j os us h.2 i q id d with⟨m,n⟩|n;.exact .inl ⟨m,qJ _ n⟩
      .exact .inr (mem_append_right _ n)|io t c=>
      let ⟨o,os⟩:=os;rcases b0c ps _ l j os us h.2 i q id d with⟨m,n⟩|n;.exact .inl ⟨m,mem_append_right _ n⟩
      .exact .inr n|so e c=>
      let ⟨o,os⟩:=os;rcases b0c ps _ l j os us h.2 i q id d with⟨m,n⟩|n;.exact .inl ⟨m,mem_append_right _ n⟩
      .exact .inr n|im t c m=>
      let ⟨o,os⟩:=os;rcases b0c ps _ l j os us h.2 i q id d with⟨m,n⟩|n;.exact .inl ⟨m,mem_append_right _ n⟩
      .exact .inr n
def f6m{X:Cx}{vs:O U.AV}{us:O A5}(h:y7 (a1p X) vs us):AVR X (h1s vs) (g6p us):=by match vs,us,h with|[],[],h=>exact⟨[],rfl,trivial⟩|[a],[u],h=>exact AVR.of1 h.1|a::d::vs,u::c::us,h=>exact⟨_,rfl,h⟩|[],_::_,h=>exact h.elim|_::_,[],h=>exact h.elim|[a],u::c::us,h=>exact h.2.elim|a::d::vs,[u],h=>exact h.2.elim
end
end Go.SX
