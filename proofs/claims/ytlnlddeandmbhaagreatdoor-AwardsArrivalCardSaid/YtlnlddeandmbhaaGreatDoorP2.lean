/- Texts of the proof, joined. -/
import Derived.Test.YtlnlddeandmbhaaGreatDoorP1
import Derived.Great.FillDense
import Derived.Great.BuildSlice
set_option linter.defProp false
set_option linter.unusedVariables false
set_option linter.unusedSimpArgs false
set_option maxRecDepth 100000
open List
namespace Go.SX
open Go Go.PL
section
variable {P:Program} {U:Uni} {E:Env} {Z:Nat -> Prop} {π:Nat -> A5} {σ:U.St} {ρ:Nat -> A5} {w:World}
variable {d:A3 Tmp} {ty:TypeId} {ps:String} {af:Array Edge} {g:A3 (Nat×Bool)} {x y z:Operand} {m0 m:Nat} {a b v:U.AV} {ws:O (Nat×U.MC)} {fr:Nat}
def c7u{c:U.C}{l:O (U.T c)}{G:Nat->Prop}{w:World}{u:A5}(h:k9 (Rp c) G w u l):u.oneCell'=true:=by let⟨a,cap,hs,_⟩:=k9.shape h;subst hs;rfl
def e25{G:Nat->Prop}{w:World}{p:U.AV->O A5->Prop}(hp:∀a cs,p a cs->∀u∈cs,u.oneCell'=true):∀{as:O U.AV}{css:O (O A5)},y7 p as css->∀u∈css.flatten,u.oneCell'=true
 |[],[],_,u,hu=>by simp_all|a::as,c::css,h,u,hu=>by
   simp only[flatten_cons,qK]at hu;rcases hu with hu|hu;.exact hp a c h.1 u hu
   .exact e25 (G:=G) (w:=w) hp h.2 u hu|[],_::_,hh,_,_=>hh.elim|_::_,[],hh,_,_=>hh.elim
def f9h{G:Nat->Prop}{w:World}:∀(k:Nat)(c:U.C)(cs:O A5)(x:U.T c),(Rd k c).rep G w cs x->∀u∈cs,u.oneCell'=true|0,_,_,_,h=>False.elim h|k+1,c,cs,x,⟨hl,css,hc,h⟩=>by subst hc;refine e25 (G:=G) (w:=w) (λa cs ha u hu=>?_) h;cases a<;>simp only[e8]at ha<;>first|(subst ha;simp at hu;subst hu;rfl)|exact f9h k _ _ _ ha u hu|(let⟨v,hv,hr⟩:=ha;subst hv;simp at hu;subst hu;let⟨a,cap,hs,_⟩:=k9.shape hr;subst hs;rfl)|(let⟨ad,cs',hc,_⟩:=ha;subst hc;simp at hu;subst hu;rfl)|exact ha.elim
def f9t{G:Nat->Prop}{w:World}{c:U.C}{cs:O A5}{x:U.T c}(h:(Rp c).rep G w cs x):∀u∈cs,u.oneCell'=true:=by let⟨k,h⟩:=h;exact f9h k c cs x h
def d0s{G:Nat->Prop}{w:World}{c:U.C}{cs:O A5}{x:U.T c}(h:(Rp c).rep G w cs x):Raw (U.n c):=⟨cs,(Rp c).len h,f9t h⟩
abbrev RAW(n:Nat):TyR (Raw n):=TyR.flat n Subtype.val (λr=>r.2.1)
def f2w{G:Nat->Prop}{w:World}{c:U.C}{u:A5}{l:O (U.T c)}(h:k9 (Rp c) G w u l):∃css:O (Raw (U.n c)),k9 (RAW (U.n c)) G w u css/\y7 (λ(r:Raw (U.n c))x=>(Rp c).rep G w r.1 x) css l:=by
 rcases h with⟨hv,hl⟩|⟨a,cap,hv,hc,hm,hi⟩;.subst hl;exact⟨[],.inl ⟨hv,rfl⟩,trivial⟩
 .have key:∀(k:Nat)(l':O _),(∀i x,l'[i]?=some x->∃cs,(Rp c).rep G w cs x/\a.block<w.heap.size/\¬G a.block/\CA w (a.add ((k+i)*(Rp c).n)) cs)->∃css:O (Raw (U.n c)),css.length=l'.length/\y7 (λ(r)x=>(Rp c).rep G w r.1 x) css l'/\∀i r,css[i]?=some r->a.block<w.heap.size/\¬G a.block/\CA w (a.add ((k+i)*U.n c)) r.1:=by intro k l';induction l' generalizing k with|nil=>intro _;exact⟨[],rfl,trivial,λi r h=>by simp at h⟩|cons y l' ih=>
     intro hh;let⟨cs,h1,h2,h3,h4⟩:=hh 0 y rfl;let⟨css,g1,g2,g3⟩:=ih (k+1) λi x hx=>by have:=hh (i+1) x (by simpa using hx);rwa[show k+(i+1)=k+1+i by omega]at this
     refine⟨d0s h1::css,by simp[g1],⟨h1,g2⟩,λi r hr=>?_⟩;cases i with|zero=>simp at hr;subst hr;exact⟨h2,h3,h4⟩|succ i=>have:=g3 i r (by simpa using hr);rwa[show k+1+i=k+(i+1)by omega]at this
  let⟨css,g1,g2,g3⟩:=key 0 l λi x hx=>by simpa using hi i x hx
  refine⟨css,.inr ⟨a,cap,by rw[g1];omega,by omega,hm,λi r hr=>?_⟩,g2⟩;let⟨h2,h3,h4⟩:=g3 i r hr;rw[Nat.zero_add]at h4;exact⟨r.1,rfl,h2,h3,h4⟩
def f8j{G G':Nat->Prop}{w:World}{c:U.C}{u:A5}{l:O (U.T c)}{css:O (Raw (U.n c))}(h:k9 (RAW (U.n c)) G w u css)(hr:y7 (λ(r:Raw (U.n c))x=>(Rp c).rep G' w r.1 x) css l)(hG:∀b,G' b->G b):k9 (Rp c) G' w u l:=by
 have hl:=hr.length;rcases h with⟨hv,h0⟩|⟨a,cap,hv,hc,hm,hi⟩;.subst h0;exact .inl ⟨hv,List.length_eq_zero_iff.1 hl.symm⟩
 .refine .inr ⟨a,cap,by grind,by omega,hm,λi x hx=>?_⟩;let⟨r,hr1,hr2⟩:=hr.getR hx;let⟨cs,h1,h2,h3,h4⟩:=hi i r hr1;subst h1;exact⟨r.1,hr2,h2,λh=>h3 (hG _ h),h4⟩
def b6w(hU:UOK U){G:Nat->Prop}{w:World}{c:U.C}{x:U.T c}{cs:O A5}(h:(Rp c).rep G w cs x):e8 Rp G w (inj c x) cs:=by unfold inj;cases ha:U.ag c with|true=>exact h|false=>obtain⟨hl,css,rfl,hh⟩:=a91.1 h;have hlay:=hU.lay c x;rw[hU.sc c ha]at hlay;cases hf:U.flds c x with|nil=>simp_all|cons a r=>rw[hf]at hh hlay;cases r with|cons _ _=>simp_all|nil=>cases css with|nil=>exact hh.elim|cons s css=>cases css with|nil=>simpa using hh.1|cons _ _=>exact hh.2.elim
def a9m{e n:Nat}(h:e54 P e n=true):(P.info? e).map (·.size)=some n:=by unfold e54 at h;split at h;all_goals simp_all
def b1m{t:TypeId}{c:U.C}(h:b2o P t c=true):∃e,P.underlying t=some (.slice e)/\e54 P e (U.n c)=true/\g6u P e (U.ag c)=true/\0<U.n c:=by grind[b2o]
def c9a(hU:UOK U)(h:Rel E Z π σ ρ w){t:TypeId}{c:U.C}{l:O (U.T c)}{n:Int}(hx:k9 (Rp c) (cx Z π σ w).G w (ev ρ x) l)(hy:ev ρ y=.int .i64 n)(he:b2o P t c=true)(hev:(Q.opt (c7 l n) λz=>(Q.done (.rp (inj c z)) []:U.Q)).Ev σ m0 m v ws):a48 P E σ ρ w ⟨d,.indexAddr t x y,ty,ps,af,g⟩ v ws:=by
 let⟨e,he1,he2,_,_⟩:=b1m he;obtain⟨zv,hz,hm1,rfl,rfl⟩:=hev;let⟨ad,cap,cs,hv,hi,hr,hb,hg,hca⟩:=hx.get hz;refine g8 h (a9v hv hy (c4r he1 (a9m he2) hi)) ⟨_,cs,rfl,?_,?_,hca,b6w hU hr⟩;.rw[a2h];exact hb
 .rw[a2h];omega
def c26{t:TypeId}{ca:U.C}(h:d14 P t ca=true):U.isA ca=true/\∃m e,P.underlying t=some (.array m e)/\m=U.an ca/\e54 P e (U.n (U.ae ca))=true:=by
 unfold d14 at h;split at h;case h_2=>grind
 rename_i m e he1;simp only[qB]at h;exact⟨h.1.1,m,e,he1,qC h.1.2,h.2⟩
def d11(hU:UOK U)(h:Rel E Z π σ ρ w){t:TypeId}(hx:AVR (cx Z π σ w) a (ev ρ x))(hy:AVR (cx Z π σ w) b (ev ρ y))(hev:(c68 P t a b).Ev σ m0 m v ws):a48 P E σ ρ w ⟨d,.indexAddr t x y,ty,ps,af,g⟩ v ws:=by
 unfold c68 at hev;split at hev;case h_2=>exact hev.elim
 rename_i n;split at hev
 .split at hev;.rename_i he;exact c9a hU h hx hy he hev
  .exact hev.elim
 .rename_i id;simp [Q.Ev]at hev;have hm:=h.mem id;split at hev
  .rename_i e0 c l hmem;rw[hmem]at hm;split at hev
   .rename_i he;let⟨e,he1,he2,_,_⟩:=b1m he;obtain⟨zv,hz,hm1,rfl,rfl⟩:=hev;let⟨css,hO,hr⟩:=hm;let⟨r,hr1,hrep⟩:=c45 hr hz;let⟨ad,cap,hv,hi,hca⟩:=Own.elem hO hr1;refine g8 h (a9v (hx.2.1.trans hv) hy (c4r he1 (a9m he2) hi)) ⟨hx.1,ad,?_,trivial,?_⟩;.show c5g (π id)=_;rw[hv];rfl
    .simp[d2l,b3g]
   .exact hev.elim
  .rename_i c l hmem;rw[hmem]at hm;split at hev;.rename_i he;refine c9a hU h ?_ hy he hev;rw[hx.2.1];exact hm
   .exact hev.elim
  .rename_i t0 ca x hmem;rw[hmem]at hm;split at hev;case h_2=>exact hev.elim
   rename_i hok;obtain⟨zv,hz,hm1,rfl,rfl⟩:=hev;unfold d14 at hok;split at hok;case h_2=>grind
   rename_i m e he1;simp only[qB]at hok;let⟨⟨hA,hmn⟩,he2⟩:=hok;have hmn:=qC hmn;let⟨blk,u,hv,hM,ha⟩:=hm;let⟨h0,h1,h2⟩:=b8d hz;rw[(hU.arr ca x hA).2,<-hmn]at h1;refine g8 h (a9v (hx.2.1.trans hv) hy (d4k he1 (a9m he2) ⟨h0,h1⟩)) ⟨hx.1,⟨blk,0,none⟩,?_,trivial,?_⟩;.show c5g (π id)=_;rw[hv];rfl
   .simp[d2l,b3g]
  .exact hev.elim
 .rename_i id c lo k;simp [Q.Ev]at hev;have hm:=h.mem id;split at hev;case h_2=>exact hev.elim
  rename_i e0 c' l hmem;rw[hmem]at hm;split at hev;case h_2=>exact hev.elim
  rename_i he;simp [qB]at he;have hcc:=c0a he.2;subst hcc;let⟨e,he1,he2,_,_⟩:=b1m he.1;obtain⟨zv,hz,hm1,rfl,rfl⟩:=hev;let⟨css,hO,hr⟩:=hm;let⟨r,hr1⟩:∃r,c72 css lo n=some r:=by
   unfold c72 at hz⊢;split at hz;.rename_i h0;let⟨r,hr1,_⟩:=c45 hr hz;simp_all
   simp_all
  have hV:=hx.2;let⟨ad,cap,hv,hi,_⟩:=d0z.getF (hn:=λr=>r.2.1) hV hO hr1;let⟨a1,L,c1,a2,c2,hv0,hlo,hL,hu,hp⟩:=hV;let⟨b0,hb0,hb2⟩:=hp (by omega);have had:ad=b0.add (lo.toNat*U.n c'):=by simp_all
  refine g8 h (a9v hv hy (c4r he1 (a9m he2) hi)) ⟨hx.1,b0,?_,trivial,?_⟩;.show c5g (π id)=_;have hv0:π id=_:=hv0;rw[hv0,hb0];rfl
  .have e1:d2l c' [.i (lo+n)]=lo.toNat*U.n c'+n.toNat*U.n c':=by
    show(lo+n).toNat*U.n c'+0=_;have e2:(lo+n).toNat=lo.toNat+n.toNat:=by omega
    rw[e2,Nat.add_mul,Nat.add_zero]
   rw[had,Deep.add_add,e1]
 .rename_i ca xv;split at hev;case h_2=>exact hev.elim
  rename_i hok;obtain⟨zv,hz,hm1,rfl,rfl⟩:=hev;let⟨hA,m,e,he1,hmn,he2⟩:=c26 hok;let⟨ad,cs,hv,hblk,hg,hca,hr⟩:=hx;let⟨h0,h1,h2⟩:=b8d hz;rw[(hU.arr ca xv hA).2,<-hmn]at h1;let⟨_,hm1',_⟩:=c3z (inj (U.ae ca)) hz;rw[<-(hU.arr ca xv hA).1]at hm1';let⟨g1,g2⟩:=c4d hU hr hm1';have ho:off ca n.toNat=n.toNat*U.n (U.ae ca):=g36 hU hA xv (by omega);refine g8 h (a9v hv hy (d4k he1 (a9m he2) ⟨h0,h1⟩)) ⟨_,_,rfl,?_,?_,CA.sub hca (off ca n.toNat) (asz (inj (U.ae ca) zv))|>λq=>?_,g1⟩;.rw[a2h];omega
  .rw[a2h];omega
  simp_all
 .split at hev;case h_2=>exact hev.elim
  rename_i ca hca;split at hev;case h_2=>exact hev.elim
  rename_i hok;obtain⟨zv,hz,hm1,rfl,rfl⟩:=hev;let⟨hA,m,e,he1,hmn,he2⟩:=c26 hok;let⟨hu,ad,had,hokp,hv⟩:=hx;unfold d0n at hz;split at hz;case isFalse=>grind
  rename_i hin;let⟨h1,h2⟩:=f5b (n:=n) hca;refine g8 h (a9v hv hy (d4k he1 (a9m he2) (by omega))) ⟨hu,ad,had,h2 hokp ⟨hin.1,hin.2,trivial⟩,?_⟩;rw[h1,Addr.add_add];simp[b3g]
 .exact hev.elim
def f7h(h:Rel E Z π σ ρ w)(hx:AVR (cx Z π σ w) a (ev ρ x))(hev:(h3c a:U.Q).Ev σ m0 m v ws):a48 P E σ ρ w ⟨d,.nilCheck x,ty,ps,af,g⟩ v ws:=by
 unfold h3c at hev;split at hev
 .rename_i id;simp [Q.Ev]at hev;have hm:=h.mem id;split at hev;.rename_i t a0 hmem;rw[hmem]at hm;obtain⟨hm1,rfl,rfl⟩:=hev;let⟨blk,u,hv,_,_⟩:=hm;exact g8 h (c5q (hx.2.1.trans hv)) ⟨hx.1,hv.symm,rfl⟩
  .exact hev.elim
 .obtain⟨hm1,rfl,rfl⟩:=hev;let⟨ad,cs,hv,r⟩:=hx;exact g8 h (c5q hv) ⟨ad,cs,rfl,r⟩
 .obtain⟨hm1,rfl,rfl⟩:=hev;let⟨hu,ad,had,hok,hv⟩:=hx;exact g8 h (c5q hv) ⟨hu,ad,had,hok,rfl⟩
 .exact hev.elim
def e2e(h:Rel E Z π σ ρ w){id:Nat}{c:U.C}{l:O (U.T c)}(hm:(∃e,σ.mem id=.sl e c l)\/σ.mem id=.fz c l):∃ad cap,π id=.slice ad l.length cap:=by
 have hh:=h.mem id;rcases hm with⟨e,hm⟩|hm;.rw[hm]at hh;let⟨css,hO,hr⟩:=hh;let⟨ad,cap,hv,_⟩:=hO.shape;exact⟨ad,cap,by rw[hv,hr.length]⟩
 .rw[hm]at hh;let⟨ad,cap,hv,_⟩:=k9.shape hh;simp_all
def e7v{t:TypeId}(h:g66 P t=true):∃e,P.underlying t=some (.slice e):=by grind[g66]
def f7e(h:Rel E Z π σ ρ w){t:TypeId}(hx:AVR (cx Z π σ w) a (ev ρ x))(hev:(h3u P t a).Ev σ m0 m v ws):a48 P E σ ρ w ⟨d,.call ⟨.builtin .len,#[x],#[t]⟩,ty,ps,af,g⟩ v ws:=by
 have key:∀(ad:A3 _)(n cap:Nat),g66 P t=true->ev ρ x=.slice ad n cap->a48 P E σ ρ w ⟨d,.call ⟨.builtin .len,#[x],#[t]⟩,ty,ps,af,g⟩ (.int .i64 (n)) []:=by intro ad n cap ht hv;let⟨e,he⟩:=e7v ht;refine g8 h (f6w hv ?_) rfl;simp[Builtin.len_,run_underlying he,goInt]
 unfold h3u at hev;split at hev
 .split at hev;.obtain⟨hm1,rfl,rfl⟩:=hev;let⟨ad,cap,hv,_⟩:=k9.shape hx;grind
  .exact hev.elim
 .split at hev;.rename_i ht;obtain⟨hm1,rfl,rfl⟩:=hev;exact key _ 0 _ ht hx
  .exact hev.elim
 .split at hev
  .rename_i ht;obtain⟨hm1,rfl,rfl⟩:=hev;unfold f5z at ht;split at ht;.rename_i hu;refine g8 h (f6w hx ?_) rfl;simp[Builtin.len_,run_underlying hu,goInt]
   simp_all
  .exact hev.elim
 .split at hev;.obtain⟨hm1,rfl,rfl⟩:=hev;let⟨ad,cap,hv⟩:=d0z.shape hx.2;simp_all
  .exact hev.elim
 .split at hev
  .rename_i ht;simp [Q.Ev]at hev;split at hev;.rename_i e c l hmem;obtain⟨hm1,rfl,rfl⟩:=hev;let⟨ad,cap,hv⟩:=e2e h (.inl ⟨e,hmem⟩);exact key _ _ _ ht (hx.2.1.trans hv)
   .rename_i c l hmem;obtain⟨hm1,rfl,rfl⟩:=hev;let⟨ad,cap,hv⟩:=e2e h (.inr hmem);exact key _ _ _ ht (hx.2.1.trans hv)
   .exact hev.elim
  .exact hev.elim
 .exact hev.elim
def e9w(h:Rel E Z π σ ρ w){mx:Bool}{ts:Array TypeId}(hx:AVR (cx Z π σ w) a (ev ρ x))(hy:AVR (cx Z π σ w) b (ev ρ y))(hev:(mmQ mx a b:U.Q).Ev σ m0 m v ws):a48 P E σ ρ w ⟨d,.call ⟨.builtin (match mx with|true=>.max|false=>.min),#[x,y],ts⟩,ty,ps,af,g⟩ v ws:=by
 unfold mmQ at hev;split at hev
 .cases mx;.obtain⟨hm1,rfl,rfl⟩:=hev;exact g8 h (g9u hx hy) rfl
  .obtain⟨hm1,rfl,rfl⟩:=hev;exact g8 h (h0g hx hy) rfl
 .exact hev.elim
def FZ(σ:U.St)(fz:O (Nat×U.MC)):Prop:=∀id m,(id,m)∈fz->∃e c l,σ.mem id=.sl e c l/\m=.fz c l
def Zf(Z:Nat->Prop)(π:Nat->A5)(σ:U.St)(fz:O (Nat×U.MC)):Nat->Prop:=λb=>Z b\/∃id m,lk id fz=some m/\MB (σ.mem id) (π id) b
def c0x{c:U.C}{l:O (U.T c)}{u:A5}{e:TypeId}{X:Cx}{Z':Nat->Prop}(h:MR X (.sl e c l) u)(hZ:∀b,X.Z b->Z' b)(hb:∀b,u.ownBlock=some b->Z' b):k9 (Rp c) (λb=>¬Z' b) X.w u l:=by let⟨css,hO,hr⟩:=h;exact f8j (hO.rep λb hb' hz=>hz (hb b hb')) (hr.mono λr x hh=>(Rp c).weaken hh λb _ hn hz=>hn (hZ b hz)) λb h=>h
def e6i{fz:O (Nat×U.MC)}(hf:FZ σ fz){id:Nat}{m:U.MC}(hl:lk id fz=some m):∃e c l,σ.mem id=.sl e c l/\m=.fz c l:=hf id m (b1x hl)
def a95{u:A5}{b:Nat}{ad:A3 Addr}{n c:Nat}(hu:u=.slice ad n c):u.ownBlock=some b↔hdV u=some b:=by cases ad<;>simp_all[Value.ownBlock,hdV]
def Rel.freeze(h:Rel E Z π σ ρ w){fz:O (Nat×U.MC)}(hf:FZ σ fz):Rel E (Zf Z π σ fz) π (σ.app none .unk fz) ρ w:=by
 refine h.next (v:=undef) ((Ext.refl _ w)) (λb hb=>.inl hb) (λb hb=>?_) (λ_ _=>rfl) (λid m hl=>?_) (λid m hl=>?_) (λid m b hl hb=>?_) (λid id' m m' b _ hl hl' hb=>?_) trivial;.rcases hb with hb|hb;all_goals grind
 .obtain⟨e,c,l,_,rfl⟩:=e6i hf hl;grind
 .obtain⟨e,c,l,hm,rfl⟩:=e6i hf hl;have hh:=h.mem id;rw[hm]at hh;refine c0x (X:=cx Z π σ w) hh (λb hb=>.inl hb) λb hb=>.inr ⟨id,_,hl,?_⟩;rw[hm];let⟨css,hO,_⟩:=hh;let⟨ad,cap,hv,_⟩:=hO.shape;exact(a95 hv).1 hb
 .obtain⟨e,c,l,hm,rfl⟩:=e6i hf hl;exact hb.elim
 .obtain⟨e,c,l,hm,rfl⟩:=e6i hf hl;exact hb.elim
def c8m(h:Rel E Z π σ ρ w){fz:O (Nat×U.MC)}(hf:FZ σ fz):(cx Z π σ w).Le (cx (Zf Z π σ fz) π (σ.app none .unk fz) w):=by refine⟨λb hb=>.inl hb,Ext.refl _ _,λid hu=>⟨?_,rfl⟩⟩;show(σ.app _ _ fz).mem id≠.never;rw[o8];cases hl:lk id fz with|none=>exact hu|some m=>obtain⟨e,c,l,_,rfl⟩:=e6i hf hl;grind
def c8w(hU:UOK U){X:Cx}{a:U.AV}{u:A5}(h:a1p X a u):a1p X (d4a a) u:=by
 cases a<;>try exact h
 unfold d4a;dsimp only;split;.rename_i x hx;let⟨css,hu,_,_,hr⟩:=h;exact⟨css.flatten,hu,e03 hU hx hr⟩
 omega
def f4y(hU:UOK U){X:Cx}{a:U.AV}{u:A5}(h:AVR X a u):AVR X (d4a a) u:=by
 cases a<;>try exact h
 exact AVR.of1 (c8w hU h)
def e4i{a:U.AV}(h:a03 a=true):d4a a=a:=by cases a<;>first|rfl|cases h
def c6x(hU:UOK U)(h:Rel E Z π σ ρ w):∀{as:O U.AV}{us:O A5}{k:O U.AV->O (Nat×U.MC)->U.Q}{m0 m:Nat}{v:U.AV}{ws:O (Nat×U.MC)},y7 (AVR (cx Z π σ w)) as us->(d93 as k).Ev σ m0 m v ws->∃as' fz m1,(k as' fz).Ev σ m1 m v ws/\(as.all a03=true->as'.all a03=true)/\FZ σ fz/\(∀q∈fz,(.ref q.1:U.AV)∈as)/\∀fz',FZ σ fz'->(∀q∈fz,q∈fz'/\∃m,lk q.1 fz'=some m)->y7 (AVR (cx (Zf Z π σ fz') π (σ.app none .unk fz') w)) as' us
 |[],[],k,m0,m,v,ws,_,hev=>⟨[],[],m0,hev,λ_=>rfl,(λ_ _ hh=>by grind),(by grind),λ_ _ _=>trivial⟩|a::as,u::us,k,m0,m,v,ws,hr,hev=>by
   have skip:(d93 as λas ws=>k (d4a a::as) ws).Ev σ m0 m v ws->∃as' fz m1,(k as' fz).Ev σ m1 m v ws/\((a::as).all a03=true->as'.all a03=true)/\FZ σ fz/\(∀q∈fz,(.ref q.1)∈(a::as))/\∀fz',FZ σ fz'->(∀q∈fz,q∈fz'/\∃m,lk q.1 fz'=some m)->y7 (AVR (cx (Zf Z π σ fz') π (σ.app none .unk fz') w)) as' (u::us):=by intro hev;let⟨as',fz,m1,h1,h0,h2,h2',h3⟩:=c6x hU h hr.2 hev;refine⟨d4a a::as',fz,m1,h1,λhp=>?_,h2,λq hq=>qJ _ (h2' q hq),λfz' hf hq=>⟨f4y hU (hr.1.le (c8m h hf)),h3 fz' hf hq⟩⟩;simp only[all_cons,qB]at hp⊢;exact⟨by rw[e4i hp.1];grind,h0 hp.2⟩
   cases a<;>try exact skip hev
   rename_i id;have hev:(match σ.mem id with|.sl _ c l=>d93 as _|.fz c l=>d93 as _|_=>.fail).Ev σ _ m v ws:=hev;have hm:=h.mem id;split at hev
   .rename_i e c l hmem;let⟨as',fz,m1,h1,h0,h2,h2',h3⟩:=c6x hU h hr.2 hev;refine⟨_,_,m1,h1,λhp=>?_,λid' m' hh=>?_,λq hq=>?_,λfz' hf hq=>⟨?_,h3 fz' hf λq hq'=>hq q (qJ _ hq')⟩⟩;.simp only[all_cons,qB]at hp⊢;exact⟨rfl,h0 hp.2⟩
    .rcases qO.1 hh with hh|hh;.cases hh;exact⟨e,c,l,hmem,rfl⟩
     .exact h2 id' m' hh
    .rcases qO.1 hq with e1|e1;.rw[e1];exact qI
     .exact qJ _ (h2' q e1)
    .rw[hmem]at hm;let⟨m',hl⟩:=(hq _ (qI)).2;rw[hr.1.2.1];refine c0x (X:=cx Z π σ w) hm (λb hb=>.inl hb) λb hb=>.inr ⟨id,m',hl,?_⟩;rw[hmem];let⟨css,hO,_⟩:=hm;let⟨ad,cap,hv,_⟩:=hO.shape;exact(a95 hv).1 hb
   .rename_i c l hmem;let⟨as',fz,m1,h1,h0,h2,h2',h3⟩:=c6x hU h hr.2 hev;refine⟨_,_,m1,h1,λhp=>?_,h2,λq hq=>qJ _ (h2' q hq),λfz' hf hq=>⟨?_,h3 fz' hf hq⟩⟩;.simp only[all_cons,qB]at hp⊢;exact⟨rfl,h0 hp.2⟩
    .rw[hmem]at hm;rw[hr.1.2.1];exact AVR.le (c8m h hf) hm
   .exact hev.elim|[],_::_,_,_,_,_,_,hh,_=>hh.elim|_::_,[],_,_,_,_,_,hh,_=>hh.elim
def b1s(hp:b3a a=true):c1d a=true:=by cases a<;>first|rfl|cases hp
def b99{as:O U.AV}(h:as.all b3a=true):as.all c1d=true:=by simp_all[qX,Iff.mpr,b1s,Iff.mp]
def f4w(h:Rel E Z π σ ρ w){fz:O (Nat×U.MC)}(hf:FZ σ fz){o:Oper}{ws:O (Nat×U.MC)}(hg:a48 P E (σ.app none .unk fz) ρ w o a ws):a48 P E σ ρ w o a (ws++fz):=by
 refine hg.mono λu w'⟨Z',π',hR⟩=>⟨Z',π',?_⟩;have e:(σ.app none .unk fz).app o.dst a ws=σ.app o.dst a (ws++fz):=by cases o.dst<;>simp[St.app,St.put,qQ]
 grind
def e64{fz:O (Nat×U.MC)}{q:Nat×U.MC}(hq:q∈fz):∃m,lk q.1 fz=some m:=by induction fz with|nil=>grind|cons r fz ih=>show∃m,(bif Nat.beq r.1 q.1then some r.2else lk q.1 fz)=some m;cases hk:Nat.beq r.1 q.1with|true=>simp_all|false=>rcases qO.1 hq with e|e;all_goals simp_all
def g7k(hU:UOK U)(h:Rel E Z π σ ρ w){c:U.C}{fs:O U.AV}{css:O (O A5)}{k:O U.AV->O (Nat×U.MC)->U.Q}(hp:fs.all a03=true)(hr:y7 (λa s=>∃u:A5,u.cells.toList=s/\b79 (cx Z π σ w) a u) fs css)(hev:(d93 fs k).Ev σ m0 m v ws):∃as' fz m1,(k as' fz).Ev σ m1 m v ws/\FZ σ fz/\∀x:U.T c,U.mkv c as'=some x->(Rp c).rep (cx (Zf Z π σ fz) π (σ.app none .unk fz) w).G w css.flatten x:=by
 have hus:∀(fs:O U.AV)(css:O _),fs.all a03=true->y7 (λa s=>∃u:A5,u.cells.toList=s/\b79 (cx Z π σ w) a u) fs css->∃us:O A5,us.map (λu=>u.cells.toList)=css/\y7 (AVR (cx Z π σ w)) fs us:=by intro fs;induction fs with
  |nil=>intro css _ h;cases css with|nil=>exact⟨[],rfl,trivial⟩|cons _ _=>exact h.elim
  |cons a fs ih=>intro css hp h;cases css with|nil=>exact h.elim|cons s css=>let⟨u,hu,h1⟩:=h.1;simp only[all_cons,qB]at hp;let⟨us,g1,g2⟩:=ih css hp.2 h.2;exact⟨u::us,by grind,AVR.of1 (.of0 h1),g2⟩
 let⟨us,hus1,hus2⟩:=hus fs css hp hr;let⟨as',fz,m1,hev,h0,hf,_,hA⟩:=c6x hU h hus2 hev;have hrep:∀(as':O U.AV)(us:O A5),as'.all a03=true->y7 (AVR (cx (Zf Z π σ fz) π (σ.app none .unk fz) w)) as' us->y7 (λa s=>∃u:A5,u.cells.toList=s/\a1p (cx (Zf Z π σ fz) π (σ.app none .unk fz) w) a u) as' (us.map λu=>u.cells.toList):=by intro as';induction as' with
  |nil=>intro us _ h;cases us with|nil=>trivial|cons _ _=>exact h.elim
  |cons a as ih=>intro us hp h;cases us with|nil=>exact h.elim|cons u us=>simp only[all_cons,qB]at hp;exact⟨⟨u,rfl,a8m (by cases a<;>first|rfl|cases hp.1) h.1⟩,ih us hp.2 h.2⟩
 refine⟨as',fz,m1,hev,hf,λx hk=>?_⟩;have hcs:=d1x hU hk (hrep as' us (h0 hp) (hA fz hf λq hq=>⟨hq,e64 hq⟩));rw[hus1]at hcs;exact hcs
def f0k(hU:UOK U)(h:Rel E Z π σ ρ w){t:TypeId}(hx:AVR (cx Z π σ w) a (ev ρ x))(hev:(g8f P t a).Ev σ m0 m v ws):a48 P E σ ρ w ⟨d,.load t x,ty,ps,af,g⟩ v ws:=by
 cases a<;>try exact hev.elim
 case ref id=>
  have hm:=h.mem id;have hev:(g1o (σ.mem id) [] λb=>match b with
   |.st c fs=>d93 fs _
   |b=>match b33 P t b with|true=>Q.done b []|false=>Q.fail).Ev σ _ m v ws:=hev;cases hmem:σ.mem id<;>rw[hmem]at hev hm<;>try exact hev.elim
  case box t' a0=>
   simp [g1o,nav]at hev;let⟨blk,u,hv,hM,ha⟩:=hm;have plain:(match b33 P t a0 with|true=>Q.done a0 []|false=>(Q.fail)).Ev σ (m0|||2^(2*id+1)) m v ws->a48 P E σ ρ w ⟨d,.load t x,ty,ps,af,g⟩ v ws:=by
    intro hev;split at hev;.rename_i hf;obtain⟨hm1,rfl,rfl⟩:=hev;exact c1z hU h (hx.2.1.trans hv) hf ⟨u,ha,hM.ca⟩
    .exact hev.elim
   cases a0<;>try simp_all
   rename_i c fs;let⟨css,hu,hlay,hp,hr⟩:=ha;let⟨as',fz,m1,hev,hf,hA⟩:=g7k (c:=c) hU h hp hr hev;split at hev;case h_2=>exact hev.elim
   rename_i xv hk;split at hev;case h_2=>exact hev.elim
   rename_i hft;let⟨hm1,hv1,hws⟩:=hev;rw[hv1,hws];exact c1z hU (h.freeze hf) (hx.2.1.trans hv) hft ⟨.agg _,⟨css.flatten,rfl,(hA xv hk)⟩,by rw[<-hu];exact (hM.ca)⟩
 case fref id c p=>have hev:(match c18 c _ p with|true=>g1o _ p _|false=>Q.fail).Ev σ _ m v ws:=hev;cases hc:c18 c _ p with|false=>rw[hc]at hev;exact hev.elim|true=>rw[hc]at hev;let⟨hu,ad,had,hok,hv⟩:=hx;let⟨b,hev,hL⟩:=e2m hU h (.inr hc) hok hev;cases hf:b33 P t b with|false=>rw[hf]at hev;exact hev.elim|true=>rw[hf]at hev;obtain⟨hm1,rfl,rfl⟩:=hev;exact c1z hU h hv hf (hL ad had)
 case rp b=>have hev:(match b33 P t b with|true=>Q.done b []|false=>Q.fail).Ev σ m0 m v ws:=hev;cases hf:b33 P t b with|false=>rw[hf]at hev;exact hev.elim|true=>rw[hf]at hev;obtain⟨hm1,rfl,rfl⟩:=hev;let⟨ad,cs,hv,hb,hg,hca,hr⟩:=hx;let⟨u,hu,hr⟩:=a18 hr;exact c1z hU h hv hf ⟨u,hr,by simp_all⟩
def e6h(hU:UOK U)(h:Rel E Z π σ ρ w){t:TypeId}(hx:AVR (cx Z π σ w) a (ev ρ x))(hev:(e9z P t a).Ev σ m0 m v ws):a48 P E σ ρ w ⟨d,.load t x,ty,ps,af,g⟩ v ws:=by
 unfold e9z at hev;split at hev;case h_2=>exact hev.elim
 rename_i id;have hm:=h.mem id;have hev:(match σ.mem id with|.box _ (.st c fs)=>(match b33 P t _ with|true=>Q.done _ []|false=>.fail)|_=>(.fail)).Ev σ _ m v ws:=hev;split at hev
 .rename_i t' c fs hmem;rw[hmem]at hm;let⟨blk,u,hv,hM,ha⟩:=hm;split at hev;.rename_i hf;obtain⟨hm1,rfl,rfl⟩:=hev;exact c1z hU h (hx.2.1.trans hv) hf ⟨u,ha,hM.ca⟩
  .exact hev.elim
 .exact hev.elim
end
section
variable {P:Program} {U:Uni} {E:Env} {Z:Nat -> Prop} {π:Nat -> A5} {σ:U.St} {ρ:Nat -> A5} {w:World}
variable {d:A3 Tmp} {ty:TypeId} {ps:String} {af:Array Edge} {g:A3 (Nat×Bool)} {x y z:Operand} {m0 m:Nat} {a b v:U.AV} {ws:O (Nat×U.MC)} {fr:Nat}
def c0j(π:Nat->A5)(fr:Nat)(v:A5):Nat->A5:=λid=>if id=fr then v else π id
def Rel.new(h:Rel E Z π σ ρ w)(hn:σ.mem fr=.never){w':World}{mc:U.MC}{dead:O Nat}{v':A5}(hnn:mc≠.never)(hE:Ext (λb=>∃id∈dead,MB (σ.mem id) (π id) b) w w')(hm:∀X':Cx,(cx Z π σ w).Le X'->X'.w=w'->X'.Z=Z->MR X' mc v')(hb:∀b,MB mc v' b->b<w'.heap.size/\(w.heap.size<=b\/∃id∈dead,MB (σ.mem id) (π id) b))(h1:v'.oneCell'=true){d:A3 Tmp}:Rel E Z (c0j π fr v') (σ.app d (.ref fr) ((fr,mc)::dead.map λid=>(id,.dead))) (b20 ρ d v') w':=by
 have hlk:∀id m,lk id ((fr,mc)::dead.map λid=>(id,(.dead)))=some m->(id=fr/\m=mc)\/(id≠fr/\id∈dead/\m=.dead):=by intro id m hl;have hl:(bif Nat.beq fr id then some mc else lk id _)=some m:=hl;cases hk:Nat.beq fr id with|true=>simp_all|false=>rw[hk]at hl;let⟨i,hi,he⟩:=List.mem_map.1 (b1x hl);cases he;exact .inr ⟨λe=>Nat.ne_of_beq_eq_false hk e.symm,hi,rfl⟩
 have hlk2:∀id,id∈dead->∃m,lk id ((fr,mc)::dead.map λid=>(id,(.dead)))=some m:=by intro id hid;show∃m,(bif Nat.beq fr id then some mc else lk id _)=some m;cases Nat.beq fr id with|true=>grind|false=>induction dead with|nil=>grind|cons i r ih=>show∃m,(bif Nat.beq i id then some _ else lk id _)=some m;cases hk:Nat.beq i id with|true=>exact⟨_,rfl⟩|false=>
        rcases qO.1 hid with e|e;.subst e;exact absurd rfl (Nat.ne_of_beq_eq_false hk)
        .have hlk':lk id (r.map λid=>(id,(.dead:U.MC)))≠none:=by clear ih hlk hb hE;induction r with|nil=>grind|cons j r ih2=>show(bif Nat.beq j id then some _ else lk id _)≠none;cases hk:Nat.beq j id with|true=>simp_all|false=>
              rcases qO.1 e with e|e;.simp_all
              simp_all
         cases hx:lk id _ with|none=>exact absurd hx hlk'|some m=>exact⟨m,rfl⟩
 have hle:(cx Z π σ w).Le (cx Z (c0j π fr v') (σ.app d (.ref fr) ((fr,mc)::dead.map λid=>(id,.dead))) w'):=by
  refine⟨λ_ hb=>hb,hE.mono λb⟨id,_,hb⟩hz=>(h.own id b hb).1 hz,λid hu=>⟨?_,?_⟩⟩;.show(σ.app d _ _).mem id≠.never;rw[o8];cases hl:lk id _ with|none=>exact hu|some m=>
     rcases hlk id m hl with⟨_,rfl⟩|⟨_,_,rfl⟩;.omega
     grind
  .show(if id=fr then v' else π id)=π id;rw[if_neg];intro e;subst e;exact hu hn
 refine h.next (hE.mono λb⟨id,hid,hb⟩=>?_) (λ_ hb=>hb) (λ_ hb=>.inl hb) (λid hu=>?_) (λid m hl=>?_) (λid m hl=>?_) (λid m b hl hb'=>?_) (λid id' m m' b hne hl hl' hb1 hb2=>?_) ?_;.let⟨m,hm⟩:=hlk2 id hid;exact⟨id,m,hm,hb⟩
 .show(if id=fr then v' else π id)=π id;rw[if_neg];intro e;subst e;exact hu hn
 .rcases hlk id m hl with⟨_,rfl⟩|⟨_,_,rfl⟩;.omega
  .intro h;cases h
 .rcases hlk id m hl with⟨rfl,rfl⟩|⟨_,_,rfl⟩;.rw[show c0j π id v' id=v' by simp[c0j]];exact hm _ hle rfl rfl
  .trivial
 .rcases hlk id m hl with⟨rfl,rfl⟩|⟨_,_,rfl⟩
  .rw[show c0j π id v' id=v' by simp[c0j]]at hb';let⟨h2,h3⟩:=hb b hb';refine⟨λhz=>?_,h2,?_⟩
   .rcases h3 with h3|⟨i,_,h3⟩;.have:=h.zlt b hz;omega
    .exact(h.own i b h3).1 hz
   .rcases h3 with h3|⟨i,hi,h3⟩;.omega
    .let⟨m',hm'⟩:=hlk2 i hi;exact .inr ⟨i,m',hm',h3⟩
  .exact hb'.elim
 .rcases hlk id m hl with⟨rfl,rfl⟩|⟨_,_,rfl⟩
  .rcases hlk id' m' hl' with⟨rfl,rfl⟩|⟨_,_,rfl⟩;.omega
   .exact hb2.elim
  .exact hb1.elim
 .refine⟨?_,?_,h1⟩
  .show(σ.app d _ _).mem fr≠.never;rw[o8];have:lk fr ((fr,mc)::dead.map λid=>(id,(.dead)))=some mc:=by show(bif Nat.beq fr fr then some mc else _)=some mc;rw[show Nat.beq fr fr=true from Nat.beq_refl fr];rfl
   rw[this];omega
  .show v'=c0j π fr v' fr;simp[c0j]
def b1u(h:Rel E Z π σ ρ w){o:Oper}{obj:Obj}{mc:U.MC}{v':A5}(hn:σ.mem fr=.never)(hrun:(execOp (ev ρ) o).run P w=.ok (.value v') (w.alloc obj))(hnn:mc≠.never)(hv:hdV v'=some w.heap.size)(h1:v'.oneCell'=true)(hbm:∀b,MB mc v' b->hdV v'=some b)(hm:∀X':Cx,(cx Z π σ w).Le X'->X'.w=w.alloc obj->X'.Z=Z->MR X' mc v'):a48 P E σ ρ w o (.ref fr) [(fr,mc)]:=by unfold a48 a0k;rw[hrun];refine⟨Z,c0j π fr v',?_⟩;refine h.new (dead:=[]) hn hnn ((Ext.alloc _ w obj).mono λ_ hh=>hh) hm (λb hb=>?_) h1;have:=hbm b hb;simp_all
def d77:∀(fs:O Field)(as:O U.AV)(k:Nat),(b88 P k fs as).1.map a07=as.map a07/\(as.all a03=true->(b88 P k fs as).1.all a03=true)/\(∀q∈(b88 P k fs as).2,k<=q.1/\∃e c,q.2=(.sl e c []:U.MC))/\∀(X X':Cx),X.Le X'->(∀q∈(b88 P k fs as).2,X'.us q.1/\X'.π q.1=.slice none 0 0)->∀css,y7 (λa s=>∃u:A5,u.cells.toList=s/\b79 X a u) as css->y7 (λa s=>∃u:A5,u.cells.toList=s/\b79 X' a u) (b88 P k fs as).1 css:=by
 have base:∀(as:O U.AV)(k:Nat)(fs:O _),b88 P k fs as=(as,[])->(b88 P k fs as).1.map a07=as.map a07/\(as.all a03=true->(b88 P k fs as).1.all a03=true)/\(∀q∈(b88 P k fs as).2,k<=q.1/\∃e c,q.2=(.sl e c []))/\∀(X X':Cx),X.Le X'->(∀q∈(b88 P k fs as).2,X'.us q.1/\X'.π q.1=.slice none 0 0)->∀css,y7 (λa s=>∃u:A5,u.cells.toList=s/\b79 X a u) as css->y7 (λa s=>∃u:A5,u.cells.toList=s/\b79 X' a u) (b88 P k fs as).1 css:=by intro as k fs e;rw[e];exact⟨rfl,λh=>h,(λq hq=>by grind),λX X' hX _ css h=>h.mono λ_ _⟨u,hu,hh⟩=>⟨u,hu,hh.le hX⟩⟩
 intro fs;induction fs with|nil=>intro as k;exact base as k [] (by cases as<;>rfl)|cons f fs ih=>intro as k;cases as with|nil=>exact base [] k _ rfl|cons a as=>
     have skip:b88 P k (f::fs) (a::as)=(a::(b88 P k fs as).1,(b88 P k fs as).2)->(b88 P k (f::fs) (a::as)).1.map a07=(a::as).map a07/\((a::as).all a03=true->(b88 P k (f::fs) (a::as)).1.all a03=true)/\(∀q∈(b88 P k (f::fs) (a::as)).2,k<=q.1/\∃e c,q.2=(.sl e c []))/\∀(X X':Cx),X.Le X'->(∀q∈(b88 P k (f::fs) (a::as)).2,X'.us q.1/\X'.π q.1=.slice none 0 0)->∀css,y7 (λa s=>∃u:A5,u.cells.toList=s/\b79 X a u) (a::as) css->y7 (λa s=>∃u:A5,u.cells.toList=s/\b79 X' a u) (b88 P k (f::fs) (a::as)).1 css:=by
      intro e;rw[e];let⟨h1,h2,h3,h4⟩:=ih as k;refine⟨by simp[h1],λhp=>?_,h3,λX X' hX hq css hh=>?_⟩;.simp only[all_cons,qB]at hp⊢;exact⟨hp.1,h2 hp.2⟩
      .cases css with|nil=>exact hh.elim|cons s css=>let⟨u,hu,hr⟩:=hh.1;exact⟨⟨u,hu,hr.le hX⟩,h4 X X' hX hq css hh.2⟩
     cases a<;>try exact skip rfl
     have alt:b88 P k (f::fs) (.nils::as)=(.nils::(b88 P k fs as).1,(b88 P k fs as).2)\/∃e c,b88 P k (f::fs) ((.nils)::as)=(.ref k::(b88 P (k+1) fs as).1,(k,.sl e c [])::(b88 P (k+1) fs as).2):=by
      simp [b88];split
      .split;.exact .inr ⟨_,_,rfl⟩
       .exact .inl rfl
      .exact .inl rfl
     rcases alt with e0|⟨e,c,e0⟩;.exact skip e0
     .rw[e0];let⟨h1,h2,h3,h4⟩:=ih as (k+1);refine⟨by simp[h1,a07],λhp=>?_,λq hq=>?_,λX X' hX hq css hh=>?_⟩;.simp only[all_cons,qB]at hp⊢;exact⟨rfl,h2 hp.2⟩
      .rcases qO.1 hq with e1|e1;.rw[e1];exact⟨Nat.le_refl _,e,c,rfl⟩
       .let⟨g1,g2⟩:=h3 q e1;exact⟨by omega,g2⟩
      .cases css with|nil=>exact hh.elim|cons s css=>let⟨u,hu,hr⟩:=hh.1;let⟨g1,g2⟩:=hq _ qI;exact⟨⟨u,hu,g1,hr.trans g2.symm,by rw[hr];rfl⟩,h4 X X' hX (λq hq'=>hq q (qJ _ hq')) css hh.2⟩
def Rel.openB(h:Rel E Z π σ ρ w){id:Nat}{t:TypeId}{c:U.C}{as:O U.AV}{k:Nat}{fs:O Field}(hm:σ.mem id=.box t (.st c as))(hn:∀q∈(b88 P k fs as).2,σ.mem q.1=.never):∃π',Rel E Z π' (σ.app none .unk ((id,.box t (.st c (b88 P k fs as).1))::(b88 P k fs as).2)) ρ w:=by
 let⟨h1,h2,h3,h4⟩:=d77 (P:=P) fs as k;generalize b88 P k fs as=q at hn h1 h2 h3 h4;let⟨as',ms⟩:=q;let⟨π',hπ⟩:∃π':Nat->A5,π'=λi=>if(lk i ms).isSome=true then .slice none 0 0 else π i:=⟨_,rfl⟩;have hu:∀i,b7a σ i->π' i=π i:=λi hi=>by rw[hπ];show(if _ then _ else _)=_;rw[if_neg];intro hs;let⟨m,hl⟩:=Option.isSome_iff_exists.1 hs;exact hi (hn _ (b1x hl))
 have hnil:∀i m,lk i ms=some m->π' i=.slice _ 0 0:=λi m hl=>by rw[hπ];show(if _ then _ else _)=_;rw[if_pos (by rw[hl];rfl)]
 have hlk:∀i m,lk i ((id,.box t (.st c as'))::ms)=some m->(i=id/\m=.box t (.st c as'))\/(i≠id/\lk i ms=some m):=by intro i m hl;have hl:(bif Nat.beq id i then some _ else lk i ms)=some m:=hl;cases hk:Nat.beq id i with|true=>rw[hk]at hl;cases hl;exact .inl ⟨(qC hk).symm,rfl⟩|false=>rw[hk]at hl;exact .inr ⟨λe=>Nat.ne_of_beq_eq_false hk e.symm,hl⟩
 have hid:lk id ((id,(.box t (.st c as')))::ms)=some (.box t (.st c as')):=by show(bif Nat.beq id id then some _ else lk id ms)=_;rw[show Nat.beq id id=true from Nat.beq_refl id];rfl
 have hui:b7a σ id:=by unfold b7a;rw[hm];intro h;cases h
 have hnew:∀q∈ms,(cx Z π' (σ.app none .unk ((id,.box t (.st c as'))::ms)) w).us q.1/\(cx Z π' (σ.app none .unk ((id,.box t (.st c as'))::ms)) w).π q.1=.slice none 0 0:=by
  intro q hq;have:=e64 hq;let⟨m,hl⟩:=this;refine⟨?_,hnil _ m hl⟩;show(σ.app _ _ _).mem q.1≠.never;rw[o8];have hne:q.1≠id:=λe=>hui (by rw[<-e];exact hn q hq);have:lk q.1 ((id,(.box t (.st c as')))::ms)=some m:=by show(bif Nat.beq id q.1then some _ else lk q.1 ms)=_;cases hk:Nat.beq id q.1with|true=>exact absurd (qC hk).symm hne|false=>exact hl
  rw[this];let⟨_,e,c',he⟩:=h3 _ (b1x hl);dsimp only at he;rw[he];intro h;cases h
 refine⟨π',h.next (v:=undef) (Ext.refl _ w) (λb hb=>hb) (λb hb=>.inl hb) hu (λi m hl=>?_) (λi m hl=>?_) (λi m b hl hb=>?_) (λi i' m m' b hne hl hl' hb hb'=>?_) trivial⟩
 .rcases hlk i m hl with⟨_,rfl⟩|⟨_,hl2⟩;.intro h;cases h
  .let⟨_,e,c',he⟩:=h3 _ (b1x hl2);dsimp only at he;rw[he];intro h;cases h
 .rcases hlk i m hl with⟨rfl,rfl⟩|⟨_,hl2⟩;.have hmm:=h.mem i;rw[hm]at hmm;let⟨b,u,hv,hM,css,hu1,hlay,hp,hr⟩:=hmm;refine⟨b,u,by rw[hu i hui];omega,hM,css,hu1,by rw[h1];omega,h2 hp,h4 _ _ (by refine⟨λ_ h=>h,Ext.refl _ _,λi hi=>⟨?_,hu i hi⟩⟩;show(σ.app _ _ _).mem i≠.never;rw[o8];cases hl:lk i _ with|none=>exact hi|some m=>
    rcases hlk i m hl with⟨_,rfl⟩|⟨_,hl2⟩;.intro h;cases h
    .let⟨_,e,c',he⟩:=h3 _ (b1x hl2);dsimp only at he;rw[he];intro h;cases h) hnew css hr⟩
  .let⟨_,e,c',he⟩:=h3 _ (b1x hl2);dsimp only at he;rw[he,hnil i m hl2];exact⟨[],Own.nil _ _ _ _ _,trivial⟩
 .rcases hlk i m hl with⟨rfl,rfl⟩|⟨_,hl2⟩
  .rw[hu i hui]at hb;have hb:MB (σ.mem i) (π i) b:=by rw[hm];exact hb
   let⟨g1,g2,_⟩:=h.own i b hb;exact⟨g1,g2,.inr ⟨i,_,hid,hb⟩⟩
  .let⟨_,e,c',he⟩:=h3 _ (b1x hl2);dsimp only at he;rw[he,hnil i m hl2]at hb;cases hb
 .have nm:∀i m,lk i ms=some m->¬MB m (π' i) b:=λi m hl2 hb=>by let⟨_,e,c',he⟩:=h3 _ (b1x hl2);dsimp only at he;rw[he,hnil i m hl2]at hb;cases hb
  rcases hlk i m hl with⟨e1,_⟩|⟨_,hl2⟩
  .rcases hlk i' m' hl' with⟨e2,_⟩|⟨_,hl2'⟩;.omega
   .exact nm i' m' hl2' hb'
  .exact nm i m hl2 hb
def d4r:∀{l:O Nat}{q:U.Q}{m0 m:Nat}{v:U.AV}{ws:O (Nat×U.MC)},(g6x l q).Ev σ m0 m v ws->(∀i∈l,σ.mem i=.never)/\∃m1,q.Ev σ m1 m v ws
 |[],q,m0,m,v,ws,h=>⟨(by grind),m0,h⟩|i::l,q,m0,m,v,ws,h=>by
   have h:(match σ.mem i with|.never=>g6x l q|_=>(.fail)).Ev σ _ m v ws:=h;split at h;.let⟨h3,h4⟩:=d4r h;simp_all
   .exact h.elim
def c44{o:Oper}{v0:U.AV}{ws0:O (Nat×U.MC)}{id:Nat}{t:TypeId}(hg:a48 P E σ ρ w o v0 ws0)(hid:(σ.app o.dst v0 ws0).mem id=.box t a)(hdis:∀i,fr<i->σ.mem i=.never->lk i ws0=none)(hev:(c78 P fr t id a v0 ws0).Ev σ m0 m v ws):a48 P E σ ρ w o v ws:=by
 unfold c78 at hev;split at hev;.let⟨_,rfl,rfl⟩:=hev;omega
 .rename_i a' mm ms ho;obtain⟨hn,m1,_,rfl,rfl⟩:=d4r hev;unfold g8o at ho;cases a<;>try grind
  rename_i c as;dsimp only at ho;split at ho
  .rename_i fs hfs;simp [Prod.mk.injEq]at ho;let⟨rfl,ho2⟩:=ho;let⟨_,_,h3,_⟩:=d77 (P:=P) fs.toList as (fr+1);refine a0k.mono hg λu w'⟨Z',π',hR⟩=>?_;let⟨π'',hR2⟩:=hR.openB (P:=P) (k:=fr+1) (fs:=fs.toList) hid λq hq=>by rw[o8];have h5:=h3 q hq;rw[ho2]at hq;have h6:=hn q.1 (mem_map_of_mem hq);rw[hdis q.1 (by omega) h6];omega
   refine⟨Z',π'',?_⟩;rw[ho2]at hR2;have e:((σ.app o.dst v ws0).app none .unk ((id,.box t (.st c (b88 P (fr+1) fs.toList as).1))::mm::ms))=σ.app o.dst v ((id,.box t (.st c (b88 P (fr+1) fs.toList as).1))::((mm::ms)++ws0)):=by cases hd:o.dst<;>simp[St.app,St.put]
   rw[e]at hR2;omega
  grind
def f0y{t:TypeId}(hev:(g7b P fr t a).Ev σ m0 m v ws):σ.mem fr=.never/\∃m1,(c78 P fr t fr a (.ref fr) [(fr,.box t a)]).Ev σ m1 m v ws:=by
 have hev:(match σ.mem fr with|.never=>c78 P fr t fr a _ _|_=>(.fail)).Ev σ _ m v ws:=hev;split at hev;.grind
 .exact hev.elim
def a5o{id i:Nat}{mc:U.MC}(h:i≠id):lk i [(id,mc)]=none:=by show(bif Nat.beq id i then some mc else none)=none;cases hk:Nat.beq id i with|true=>simp_all|false=>rfl
def b6q{d:A3 Tmp}{v:U.AV}{id:Nat}{mc:U.MC}:(σ.app d v [(id,mc)]).mem id=mc:=by
 rw[o8];have:lk id [(id,mc)]=some mc:=by show(bif Nat.beq id id then some mc else none)=_;simp_all
 grind
def e2a{o:Oper}{t:TypeId}(hg:a48 P E σ ρ w o (.ref fr) [(fr,.box t a)])(hev:(c78 P fr t fr a (.ref fr) [(fr,.box t a)]).Ev σ m0 m v ws):a48 P E σ ρ w o v ws:=c44 hg b6q (λi hi _=>a5o (by omega)) hev
def f7w(h:Rel E Z π σ ρ w){t:TypeId}(hx:AVR (cx Z π σ w) a (ev ρ x))(hev:(match b33 P t a with|true=>g7b P fr t a|false=>(.fail:U.Q)).Ev σ m0 m v ws):a48 P E σ ρ w ⟨d,.box t x,ty,ps,af,g⟩ v ws:=by
 split at hev;.rename_i hf;let⟨hn,m1,hev⟩:=f0y hev;unfold b33 at hf;simp [qB]at hf;have hx1:=a8m (b1s hf.1.1) hx;refine e2a (b1u h (obj:=.cells (ev ρ x).cells t) (v':=.pointer (some ⟨w.heap.size,0,none⟩)) hn (by simp[execOp,Instr.box,newVar,newRow]) (by grind) rfl rfl (λb hb=>hb) ?_) hev;rintro X' hle hw hZ;refine⟨w.heap.size,ev ρ x,rfl,?_,hx1.le hle⟩;rw[hw];have:=Mb.alloc w t (ev ρ x).cells.toList;omega
 .exact hev.elim
def d6r(hU:UOK U){X:Cx}{gg:TypeId->O A5->A3 U.AV}(hg:∀t cs a,gg t cs=some a->∃u,u.cells.toList=cs/\a1p X a u):∀(fs:O Field)(cs:O A5)(as:O U.AV),f6u P gg fs cs=some as->∃css:O (O A5),css.flatten=cs/\y7 (λa s=>∃u,u.cells.toList=s/\a1p X a u) as css
 |[],[],as,h=>by cases h;exact⟨[],rfl,trivial⟩|[],_::_,as,h=>by cases h|f::fs,cs,as,h=>by
   simp [f6u]at h;split at h
   .rename_i a ha;split at h;.rename_i as' has;cases h;let⟨css,h1,h2⟩:=d6r hU hg fs _ as' has;let⟨u,hu,hr⟩:=hg _ _ _ ha;exact⟨cs.take _::css,by simp[h1],⟨u,hu,c8w hU hr⟩,h2⟩
    simp_all
   simp_all
def e5c{X:Cx}{v:A5}{a:U.AV}(h:c3p v=some a):a1p X a v/\v.cells.toList=[v]:=by unfold c3p at h;split at h<;>first|(cases h;exact⟨rfl,rfl⟩)|grind
def e4a(hU:UOK U){X:Cx}{c:U.C}{as:O U.AV}{a:U.AV}(h:h1n c as=some a){css:O (O A5)}(hr:y7 (λa s=>∃u:A5,u.cells.toList=s/\a1p X a u) as css):a1p X a (.agg css.flatten.toArray):=by
 unfold h1n at h;split at h
 .rename_i x hk;let⟨h1,h2⟩:=f2j hU hk;split at h;.cases h;refine⟨css,rfl,h2,h1,?_⟩;rename_i hany;clear hk h2 hany;induction as generalizing css with
   |nil=>cases css with|nil=>trivial|cons _ _=>exact hr.elim
   |cons a as ih=>cases css with|nil=>exact hr.elim|cons s css=>simp only[all_cons,qB]at h1;let⟨u,hu,hh⟩:=hr.1;exact⟨⟨u,hu,hh.to0 h1.1⟩,ih hr.2 h1.2⟩
  .cases h;exact⟨css.flatten,rfl,d1x hU hk hr⟩
 grind
def d88(hU:UOK U){X:Cx}{gg:TypeId->O A5->A3 U.AV}(hg:∀t cs a,gg t cs=some a->∃u,u.cells.toList=cs/\a1p X a u):∀(m:Nat)(e:TypeId)(cs:O A5)(as:O U.AV),f8c P gg m e cs=some as->∃css:O (O A5),css.flatten=cs/\y7 (λa s=>∃u,u.cells.toList=s/\a1p X a u) as css
 |0,e,[],as,h=>by cases h;exact⟨[],rfl,trivial⟩|0,e,_::_,as,h=>by cases h|m+1,e,cs,as,h=>by
   simp [f8c]at h;split at h
   .rename_i a ha;split at h;.rename_i as' has;cases h;let⟨css,h1,h2⟩:=d88 hU hg m e _ as' has;let⟨u,hu,hr⟩:=hg _ _ _ ha;exact⟨cs.take _::css,by simp[h1],⟨u,hu,c8w hU hr⟩,h2⟩
    simp_all
   simp_all
def c13(hU:UOK U){X:Cx}:∀(n:Nat)(t:TypeId)(cs:O A5)(a:U.AV),f0g P n t cs=some a->∃u,u.cells.toList=cs/\a1p X a u
 |0,_,_,_,h=>by cases h|n+1,t,cs,a,h=>by
   simp [f0g]at h;split at h
   .split at h
    .split at h
     .rename_i as has;split at h;.obtain⟨css,h1,h2⟩:=d6r hU (λt cs a=>c13 hU n t cs a) _ _ _ has;exact⟨.agg cs.toArray,by simp[Value.cells],by rw[<-h1];exact e4a hU h h2⟩
      grind
     grind
    grind
   .split at h
    .split at h
     .rename_i as has;split at h;.rename_i yv hag hk;cases h;obtain⟨css,h1,h2⟩:=d88 hU (λt cs a=>c13 hU n t cs a) _ _ _ _ has;exact⟨.agg _,by simp[Value.cells],cs,rfl,by rw[<-h1];exact d1x hU hk h2⟩
      grind
     grind
    grind
   .split at h;.let⟨h1,h2⟩:=e5c (X:=X) h;grind
    grind
def e60(hU:UOK U)(h:Rel E Z π σ ρ w){t:TypeId}(hev:(match(b7m P t:A3 U.AV)with|some a=>(match b33 P t a with|true=>g7b P fr t a|false=>(.fail:U.Q))|none=>.fail).Ev σ m0 m v ws):a48 P E σ ρ w ⟨d,.alloc t,ty,ps,af,g⟩ v ws:=by
 split at hev;case h_2=>exact hev.elim
 rename_i a ha;split at hev;case h_2=>exact hev.elim
 let⟨hn,m1,hev⟩:=f0y hev;unfold b7m at ha;split at ha;case h_2=>grind
 rename_i i hi;split at ha;case h_2=>grind
 rename_i zv hz;refine e2a (b1u h (obj:=.cells zv.cells t) (v':=.pointer (some ⟨w.heap.size,0,none⟩)) hn ?_ (by simp_all) rfl rfl (λb hb=>hb) ?_) hev;.simp[execOp,Instr.alloc,zeroValue,typeInfo,hi,hz,newVar,newRow]
 .rintro X' hle hw hZ;let⟨u,hu,hr⟩:=c13 hU (X:=X') _ _ _ _ ha;refine⟨w.heap.size,u,rfl,?_,hr⟩;rw[hw,hu];have:=Mb.alloc w t zv.cells.toList;omega
end
section
variable {P:Program} {U:Uni} {E:Env} {Z:Nat -> Prop} {π:Nat -> A5} {σ:U.St} {ρ:Nat -> A5} {w:World}
variable {d:A3 Tmp} {ty:TypeId} {ps:String} {af:Array Edge} {g:A3 (Nat×Bool)} {x y z:Operand} {m0 m:Nat} {a b v:U.AV} {ws:O (Nat×U.MC)} {fr:Nat}
def d33{id i:Nat}{mc m':U.MC}(h:lk i [(id,mc)]=some m'):i=id/\m'=mc:=by have:=b1x h;grind
def b6v(id:Nat)(mc:U.MC):lk id [(id,mc)]=some mc:=by show(bif Nat.beq id id then some mc else none)=_;simp_all
def Rel.set(h:Rel E Z π σ ρ w){id:Nat}{mc:U.MC}{w':World}{v':A5}(hu:b7a σ id)(hnn:mc≠.never)(hE:Ext (λb=>MB (σ.mem id) (π id) b) w w')(hm:∀X':Cx,(cx Z π σ w).Le X'->X'.w=w'->MR X' mc (π id))(hb:∀b,MB mc (π id) b->MB (σ.mem id) (π id) b){d:A3 Tmp}(ha:∀X':Cx,(cx Z π σ w).Le X'->AVR X' a v'):Rel E Z π (σ.app d a [(id,mc)]) (b20 ρ d v') w':=by
 have hle:(cx Z π σ w).Le (cx Z π (σ.app d a [(id,mc)]) w'):=by refine⟨λ_ hb=>hb,hE.mono λb hb hz=>(h.own id b hb).1 hz,λi hi=>⟨?_,rfl⟩⟩;show(σ.app d a _).mem i≠.never;rw[o8];cases hl:lk i _ with|none=>exact hi|some m'=>let⟨_,rfl⟩:=d33 hl;omega
 refine h.next (hE.mono λb hb=>⟨id,mc,b6v id mc,hb⟩) (λ_ hb=>hb) (λ_ hb=>.inl hb) (λ_ _=>rfl) (λi m' hl=>?_) (λi m' hl=>?_) (λi m' b hl hb'=>?_) (λi i' m1 m2 b hne hl hl' _ _=>?_) (ha _ hle);.let⟨_,rfl⟩:=d33 hl;omega
 .let⟨rfl,rfl⟩:=d33 hl;exact hm _ hle rfl
 .let⟨rfl,rfl⟩:=d33 hl;let⟨h1,h2,h3⟩:=h.own i b (hb b hb');exact⟨h1,Nat.lt_of_lt_of_le h2 hE.size,.inr ⟨i,_,b6v i _,hb b hb'⟩⟩
 .let⟨rfl,rfl⟩:=d33 hl;let⟨rfl,rfl⟩:=d33 hl';omega
def f5w(hU:UOK U){X:Cx}{c:U.C}{as:O U.AV}{css:O (O A5)}(hlay:as.map a07=U.lay c)(hp:as.all a03=true)(hr:y7 (λa s=>∃u:A5,u.cells.toList=s/\b79 X a u) as css):(Value.agg css.flatten.toArray).cells.toList.length=U.n c:=by show css.flatten.toArray.toList.length=_;rw[g2f hr hp,hlay,hU.sum]
def c9y{X:Cx}{u:A5}(hp:b3a a=true)(h:a1p X a u):(a03 a=true/\b79 X a u)\/∃c as css,a=.st c as/\u=.agg css.flatten.toArray/\as.map a07=U.lay c/\as.all a03=true/\y7 (λa s=>∃u:A5,u.cells.toList=s/\b79 X a u) as css:=by cases hs:a with|st c as=>subst hs;let⟨css,h1,h2,h3,h4⟩:=h;exact .inr ⟨c,as,css,rfl,h1,h2,h3,h4⟩|_=>subst hs;first|(cases hp;done)|exact .inl ⟨rfl,a1p.to0 rfl h⟩
def e1j(hU:UOK U){X:Cx}{u:A5}(hp:b3a a=true)(h:a1p X a u):u.cells.toList.length=asz a:=by
 rcases c9y hp h with⟨h1,h2⟩|⟨c,as,css,rfl,rfl,hlay,hpp,hr⟩;.exact c49 h1 h2
 .exact f5w hU hlay hpp hr
def e2c{X:Cx}{a:U.AV}{u:A5}(hp:a03 a=true)(h:b79 X a u):∀q∈u.cells.toList,q.oneCell'=true:=by
 cases hv:b0p a with|true=>
   cases a<;>try(cases hv;done)
   case st=>exact h.elim
   let⟨cs,hu,hr⟩:=h;intro q hq;exact f9t hr q (by grind[Value.cells])|false=>
   have h1:u.oneCell'=true:=by cases a<;>first|(cases hp;done)|(cases hv;done)|(subst h;rfl)|exact c7u h|(let⟨ad,cs,h,_⟩:=h;subst h;rfl)|(let⟨_,_,h1⟩:=h;omega)
   simp_all[c0w]
def e1a{X:Cx}{u:A5}(hp:b3a a=true)(h:a1p X a u):∀q∈u.cells.toList,q.oneCell'=true:=by
 rcases c9y hp h with⟨h1,h2⟩|⟨c,as,css,rfl,rfl,hlay,hpp,hr⟩;.exact e2c h1 h2
 .intro q hq;have hq:q∈css.flatten:=by simpa[Value.cells]using hq
  clear hlay hp h;induction as generalizing css with
  |nil=>cases css with|nil=>grind|cons _ _=>exact hr.elim
  |cons a as ih=>cases css with|nil=>grind|cons s css=>
      simp only[all_cons,qB]at hpp;rcases qK.1 (by grind:q∈s++css.flatten)with hq|hq;.let⟨u,hu,h0⟩:=hr.1;exact e2c hpp.1 h0 q (by grind)
      .exact ih css hpp.2 hr.2 (by simp[Value.cells]at hq⊢;omega) hq
def c22{α β:Type}{p:α->β->Prop}:∀{l:O α}{r:O β}(n:Nat)(a:α)(b:β),y7 p l r->p a b->y7 p (l.set n a) (r.set n b)|[],[],_,_,_,_,_=>trivial|_::_,_::_,0,_,_,h,hp=>⟨hp,h.2⟩|_::_,_::_,n+1,a,b,h,hp=>⟨h.1,c22 n a b h.2 hp⟩|[],_::_,_,_,_,h,_=>h.elim|_::_,[],_,_,_,h,_=>h.elim
def b3t:∀(css:O (O A5))(n:Nat)(s t:O A5),css[n]?=some s->t.length=s.length->(css.set n t).flatten=css.flatten.take ((css.take n).flatten.length)++t++css.flatten.drop ((css.take n).flatten.length+t.length)|[],n,s,t,h,_=>by grind|c::css,0,s,t,h,hl=>by simp_all|c::css,n+1,s,t,h,hl=>by simp [set_cons_succ,flatten_cons,take_succ_cons,qL,(b3t css n s t (by simp_all) hl)];rw[take_length_add_append,Nat.add_assoc];simp_all
def d9o{cs:O A5}{o k o':Nat}{t:O A5}(h1:o+k<=cs.length)(h2:o'+t.length<=k):cs.take o++(((cs.drop o).take k).take o'++t++((cs.drop o).take k).drop (o'+t.length))++cs.drop (o+k)=cs.take (o+o')++t++cs.drop (o+o'+t.length):=by
 have e2:((cs.drop o).take k).drop (o'+t.length)++cs.drop (o+k)=cs.drop (o+o'+t.length):=by
  rw[drop_take,drop_drop];have:cs.drop (o+k)=(cs.drop (o+(o'+t.length))).drop (k-(o'+t.length)):=by rw[drop_drop];grind
  rw[this,take_append_drop,Nat.add_assoc]
 grind
def e3i:∀(css:O (O A5))(n:Nat)(s:O A5),css[n]?=some s->(css.flatten.drop ((css.take n).flatten.length)).take s.length=s/\(css.take n).flatten.length+s.length<=css.flatten.length|[],n,s,h=>by grind|c::css,0,s,h=>by simp_all|c::css,n+1,s,h=>by let⟨h1,h2⟩:=e3i css n s (by simp_all);simp only[take_succ_cons,flatten_cons,qL];refine⟨?_,by omega⟩;simp_all
def FV(X:Cx)(a:U.AV)(s:O A5):Prop:=s.length=asz a/\∃u:A5,u.cells.toList=s/\a1p X a u
def h0v{X:Cx}{as:O U.AV}{css:O (O A5)}(h:y7 (FV X) as css)(n:Nat):(css.take n).flatten.length=(((as.map a07).take n).map osz).sum:=by induction as generalizing css n with
 |nil=>cases css with|nil=>simp|cons _ _=>exact h.elim
 |cons a as ih=>cases css with|nil=>exact h.elim|cons c css=>cases n with|zero=>simp|succ n=>simp [take_succ_cons,flatten_cons,qL,map_cons,sum_cons,ih h.2 n,b0z,h.1.1]
def f7c{X:Cx}{c:U.C}{as:O U.AV}{css:O (O A5)}{n:Nat}{b1 b1':U.AV}{o':Nat}{t:O A5}(hall:y7 (FV X) as css)(hlay:as.map a07=U.lay c)(hb:as[n]?=some b1)(hsz:asz b1=asz b1')(hrec:∀s,css[n]?=some s->FV X b1 s->(∃u1:A5,u1.cells.toList=s.take o'++t++s.drop (o'+t.length)/\a1p X b1' u1)/\o'+t.length<=s.length):∃css',y7 (FV X) (as.set n b1') css'/\css'.flatten=css.flatten.take (off c n+o')++t++css.flatten.drop (off c n+o'+t.length)/\off c n+o'+t.length<=css.flatten.length:=by
 let⟨s,hs,hv⟩:=hall.get hb;let⟨⟨u1,hu1,hr1⟩,hle⟩:=hrec s hs hv;have hL:off c n=(css.take n).flatten.length:=by rw[h0v hall n,hlay];rfl
 let⟨g1,g2⟩:=e3i css n s hs;have hlen:u1.cells.toList.length=s.length:=by rw[hu1];simp [qL,length_take,length_drop];omega
 refine⟨css.set n _,c22 n b1' _ hall ⟨by rw[hlen,hv.1,hsz],u1,rfl,hr1⟩,?_,by omega⟩;rw[b3t css n s _ hs hlen];have:=d9o (by omega) hle;grind
def c4g(hU:UOK U){X:Cx}{as:O U.AV}{css:O (O A5)}(h:y7 (e8 Rp X.G X.w) as css):y7 (FV X) as css:=h.mono λa s hh=>⟨a9t hU hh,by simp_all[a18]⟩
def c7h{X:Cx}:∀{as:O U.AV}{css:O (O A5)},as.all a03=true->y7 (λa s=>∃u:A5,u.cells.toList=s/\b79 X a u) as css->y7 (FV X) as css|[],[],_,_=>trivial|a::as,s::css,hp,h=>by simp only[all_cons,qB]at hp;let⟨u,hu,hr⟩:=h.1;exact⟨⟨by rw[<-hu];exact c49 hp.1 hr,u,hu,.of0 hr⟩,c7h hp.2 h.2⟩|[],_::_,_,h=>h.elim|_::_,[],_,h=>h.elim
def e3q{X:Cx}:∀{as:O U.AV}{css:O (O A5)},as.all a03=true->y7 (FV X) as css->y7 (λa s=>∃u:A5,u.cells.toList=s/\b79 X a u) as css|[],[],_,_=>trivial|a::as,s::css,hp,h=>by simp only[all_cons,qB]at hp;let⟨_,u,hu,hr⟩:=h.1;exact⟨⟨u,hu,hr.to0 hp.1⟩,e3q hp.2 h.2⟩|[],_::_,_,h=>h.elim|_::_,[],_,h=>h.elim
def e8r{α β:Type}(f:α->β):∀(l:O α)(n:Nat)(a b:α),l[n]?=some a->f b=f a->(l.set n b).map f=l.map f|[],n,a,b,h,_=>by grind|x::l,0,a,b,h,e=>by simp_all|x::l,n+1,a,b,h,e=>by simp only[set_cons_succ,map_cons];rw[e8r f l n a b (by simp_all) e]
def g3a{α:Type}(p:α->Bool):∀(l:O α)(n:Nat)(b:α),l.all p=true->p b=true->(l.set n b).all p=true:=by grind
def d41{a b:U.AV}(h:d3t a b=true):a07 a=a07 b:=by
 unfold d3t at h;split at h;.grind
 .rename_i c c' h1 h2;rw[h1,h2,c0a h]
 grind
def d94{a0:U.AV}{p:O PE}{a1:U.AV}(hup:d0o b a0 p=some a1):p=[]\/∃c,a07 a0=some c:=by cases p with|nil=>grind|cons q p=>cases a0<;>first|exact .inr ⟨_,rfl⟩|(cases q<;>cases hup)
def c4i(hU:UOK U){X:Cx}{ub:A5}(hb:a1p X b ub)(hp:b3a b=true):∀(p:O PE)(a:U.AV)(c:U.C)(cs:O A5)(a':U.AV),cs.length=asz a->(p≠[]->∃u:A5,u.cells.toList=cs/\a1p X a u)->d0o b a p=some a'->(p=[]\/a07 a=some c)->okV c p->asz a=asz a'->(∃u',u'.cells.toList=cs.take (b3g c p)++ub.cells.toList++cs.drop (b3g c p+ub.cells.toList.length)/\a1p X a' u')/\b3g c p+ub.cells.toList.length<=cs.length/\(p=[]->a'=b)
 |[],a,c,cs,a',hl,_,hup,_,_,hsz=>by
   cases hup;have h1:=e1j hU hp hb;refine⟨⟨ub,?_,hb⟩,?_,λ_=>rfl⟩;.simp [b3g,take_zero,nil_append,Nat.zero_add];simp_all
   .simp only[b3g];omega|.f n::p,a,c,cs,a',hl,hr,hup,hc,hok,hsz=>by
   replace hc:=hc.resolve_left (λh=>by grind);let⟨u,hu,hr0⟩:=hr (by simp);have go:∀(as:O U.AV)(css:O (O A5))(b1 b1':U.AV),y7 (FV X) as css->as.map a07=U.lay c->css.flatten=cs->as[n]?=some b1->d0o b b1 p=some b1'->asz b1=asz b1'->∃css',y7 (FV X) (as.set n b1') css'/\css'.flatten=cs.take (b3g c (.f n::p))++ub.cells.toList++cs.drop (b3g c (.f n::p)+ub.cells.toList.length)/\b3g c (.f n::p)+ub.cells.toList.length<=cs.length:=by
    intro as css b1 b1' hall hlay hcs hb1 hb2 hsb;have hcode:(U.lay c)[n]?=some (a07 b1):=by rw[<-hlay,getElem?_map,hb1];rfl
    have hpre:p=[]\/a07 b1=some ((a07 b1).getD c):=by cases p with|nil=>simp_all|cons q p=>right;cases b1<;>first|rfl|(cases q<;>cases hb2)
    have hoff:b3g c (.f n::p)=off c n+b3g ((a07 b1).getD c) p:=by simp [b3g,hcode];cases hcb:a07 b1 with|some c1=>rfl|none=>
       rcases hpre with rfl|h1;.rfl
       grind
    rw[hoff];subst hcs;refine f7c hall hlay hb1 hsb λs hs hv=>?_;let⟨h1,h2,_⟩:=c4i hU hb hp p b1 ((a07 b1).getD c) s b1' hv.1 (λ_=>hv.2) hb2 hpre (by simp [okV,hcode]at hok;cases hcb:a07 b1 with|some c1=>simp_all|none=>
       rcases hpre with rfl|h1;.trivial
       grind) hsb;exact⟨h1,h2⟩
   cases a<;>try(cases hc;done)
   case val c' xv=>
    cases hc;simp [d0o]at hup;split at hup
    .rename_i b1 hb1;split at hup
     .rename_i b1' hb2;split at hup;.rename_i hszb;simp only[qB]at hszb;cases hmk:U.mkv c ((U.flds c xv).set n b1')with|none=>rw[hmk]at hup;cases hup|some yv=>rw[hmk]at hup;cases hup;let⟨cs0,hcs0,hrep⟩:=hr0;rw[hcs0]at hu;subst hu;let⟨_,css,hcs,hall⟩:=a91.1 hrep;let⟨css',h1,h2,h3⟩:=go _ css b1 b1' (c4g hU hall) (hU.lay c xv) hcs.symm hb1 hb2 (qC hszb.1);refine⟨⟨.agg css'.flatten.toArray,by rw[<-h2];simp[Value.cells],css'.flatten,rfl,d1x hU hmk (h1.mono λ_ _ h=>h.2)⟩,h3,λh=>by cases h⟩
      .cases hup
     .cases hup
    .cases hup
   case st c' as=>
    cases hc;simp [d0o]at hup;split at hup
    .rename_i b1 hb1;split at hup
     .rename_i b1' hb2;split at hup;.rename_i hsc;simp [qB]at hsc;have hco:=d41 hsc.1;cases hup;let⟨css,hcs0,hlay,hpp,hrr⟩:=hr0;rw[hcs0]at hu;let⟨css',h1,h2,h3⟩:=go _ css b1 b1' (c7h hpp hrr) hlay hu hb1 hb2 (by rw[<-b0z,<-b0z,hco]);have hpp':=g3a a03 as n b1' hpp hsc.2;refine⟨⟨.agg css'.flatten.toArray,by rw[<-h2];simp[Value.cells],css',rfl,?_,hpp',e3q hpp' h1⟩,h3,λh=>by cases h⟩;rw[e8r a07 as n b1 b1' hb1 hco.symm];omega
      .cases hup
     .cases hup
    .cases hup|.i n::p,a,c,cs,a',hl,hr,hup,hc,hok,hsz=>by
   replace hc:=hc.resolve_left (λh=>by grind);let⟨u,hu,hr0⟩:=hr (by simp);cases a<;>try(cases hup)
   case val c' xv=>
    cases hc;simp [d0o]at hup;split at hup;case h_2=>grind
    rename_i hA;let⟨h0,h1,hok⟩:=hok;let⟨y0,hget⟩:=f2g (l:=U.al c xv) h0 (by rw[(hU.arr c xv hA).2];omega);rw[hU.gt c xv n y0 hA hget]at hup;split at hup;case h_2=>grind
    rename_i a1 hup1;split at hup;case h_2=>grind
    rename_i y1 hprj;cases hup;let⟨cs0,hcs0,hrep⟩:=hr0;rw[hcs0]at hu;have hu:=by simpa[Value.cells]using hu
    subst hu;let⟨_,css,hcss,hall⟩:=a91.1 hrep;rw[(hU.arr c xv hA).1]at hall;let⟨_,hg1,hg2⟩:=c3z (inj (U.ae c)) hget;let⟨s,hs,hfs⟩:=hall.get hg1;have ht:=c4n hU (U.al c xv) css n.toNat hall (by omega);have hk3:=(a1w hU (U.ae c) y0).2.2;have hps:=d53 hU hprj;have hsl:=a9t hU hfs;let⟨⟨u',hu',hr'⟩,hle,_⟩:=c4i hU hb hp p (inj (U.ae c) y0) (U.ae c) s a1 hsl (λ_=>by let⟨u,h1,h2⟩:=a18 hfs;exact⟨u,h1,h2⟩) hup1 (by have hk2:=(a1w hU (U.ae c) y0).2.1;cases hag:U.ag (U.ae c)with|true=>simp[inj,hag,a07]|false=>
       left;rcases d94 hup1 with h|⟨c1,h⟩;.omega
       .rw[hag]at hk2;cases hi:(inj (U.ae c) y0:U.AV)<;>rw[hi]at h hk2<;>first|(cases h;done)|(cases hk2)) hok (by omega);have hrep1:=b85 hU hprj hr';have hul:u'.cells.toList.length=s.length:=by rw[hu'];simp only[qL,length_take,length_drop];omega
    let⟨q1,q2⟩:=e3i css n.toNat s hs;have hnew:(css.set n.toNat u'.cells.toList).flatten=cs0.take (n.toNat*U.n (U.ae c)+b3g (U.ae c) p)++ub.cells.toList++cs0.drop (n.toNat*U.n (U.ae c)+b3g (U.ae c) p+ub.cells.toList.length):=by rw[b3t css n.toNat s _ hs hul,hul,hu',hcss];have:=d9o q2 hle;rw[q1]at this;rw[ht]at this⊢;omega
    refine⟨⟨.agg _,?_,(css.set n.toNat u'.cells.toList).flatten,rfl,c96 hU ?_⟩,?_,λh=>by cases h⟩;.rw[hnew];rfl
    .rw[(hU.arr c _ hA).1,hU.ars c xv n y1 hA];have e:(a8h (U.al c xv) n y1).map (inj (U.ae c))=((U.al c xv).map (inj (U.ae c))).set n.toNat (inj (U.ae c) y1):=by unfold a8h;rw[if_pos h0,map_set]
     rw[e];exact c22 _ _ _ hall (b6w hU hrep1)
    .show n.toNat*U.n (U.ae c)+b3g (U.ae c) p+_<=_;rw[hcss];omega
def b0r{t:TypeId}(h:b33 P t a=true):b3a a=true/\g6u P t (b0p a)=true/\e54 P t (asz a)=true:=by grind[b33]
def d08(hU:UOK U){t:TypeId}{u:A5}(hf:b33 P t a=true){X:Cx}(h:a1p X a u)(ad:Addr)(w:World):(Instr.storeAt t (.pointer (some ad)) u).run P w=(storeCells ad u.cells.toList).run P w:=by let⟨hp,_,hs⟩:=b0r hf;simp[Instr.storeAt,Instr.sureAddr,storeVar,b45 hs,<-(e1j hU hp h)]
def d4w{G:Nat->Prop}{o:Oper}{Φ:World->Prop}(h:∀(F:O Fact)(p:Plan),F[0]?=some (0,λ_ w'=>Φ w')->p.mu.contains 0=true->a0k P ⟨none,o.op,o.type,o.pos,o.after,o.guard⟩ (ev ρ) w λv w'=>Ext (if p.mu.contains 0then G else noG) w w'/\fact F 0 (b20 ρ none v) w'):a0k P o (ev ρ) w λv w'=>Ext G w w'/\Φ w':=by have h1:=h [(0,λ_ w'=>Φ w')] (.plain [] [] [] [0] []) rfl rfl;exact h1.mono λv w'⟨h2,h3⟩=>⟨h2,h3⟩
def c4j(hU:UOK U)(h:Rel E Z π σ ρ w){t t0:TypeId}{id:Nat}{c:U.C}{p:O PE}{a0 a1:U.AV}{ub:A5}{ad:Addr}(hmem:σ.mem id=.box t0 a0)(hc:p=[]\/a07 a0=some c)(hok:okV c p)(hf:b33 P t b=true)(hup:d0o b a0 p=some a1)(hsz:(Nat.beq (asz a0) (asz a1)&&(b0p a0==b0p a1)&&b3a a0)=true)(hb:a1p (cx Z π σ w) b ub)(hy:ev ρ y=ub)(had:c5g (π id)=some ad)(hx:ev ρ x=.pointer (some (ad.add (b3g c p))))(hu:b7a σ id):a48 P E σ ρ w ⟨d,.store t x y,ty,ps,af,g⟩ .undef [(id,.box t0 a1)]:=by
 have hm:=h.mem id;rw[hmem]at hm;let⟨blk,u,hv,hM,ha⟩:=hm;rw[hv]at had;cases had;simp only[qB]at hsz;let⟨⟨u',hu',hr'⟩,hle,_⟩:=c4i hU hb (b0r hf).1 p a0 c _ a1 (e1j hU (hsz.2) ha) (λhp=>⟨u,rfl,ha⟩) hup hc hok (qC hsz.1.1);have hY:=d4w (w:=w) (o:=⟨d,.store t x y,ty,ps,af,g⟩) λF pl hF hmu=>c2z hF hmu (λ_ h=>h) hx rfl hy hM (λad w=>d08 hU hf hb ad w) hle rfl (e1a (b0r hf).1 hb);have hY2:a0k P ⟨d,.store t x y,ty,ps,af,g⟩ (ev ρ) w λv w'=>v=undef/\Ext (λq=>q=blk) w w'/\Mb w' blk t0 (u.cells.toList.take (b3g c p)++ub.cells.toList++u.cells.toList.drop (b3g c p+ub.cells.toList.length)):=by unfold a0k at hY⊢;simp only[execOp,Sem.run_bind]at hY⊢;cases hr:(Instr.storeAt t _ _).run P w with|halt h0 w0=>rw[hr]at hY;exact hY.elim|ok v0 w0=>rw[hr]at hY;exact⟨trivial,hY⟩
 refine hY2.mono λv w'⟨hv0,hE,hM'⟩=>⟨Z,π,?_⟩;subst hv0;refine h.set hu (λh=>by grind) (hE.mono λq hq=>?_) (λX' hX hw=>?_) (λq hq=>?_) (λX' hX=>rfl);.subst hq;rw[hmem,hv];rfl
 .rw[hv];refine⟨blk,u',rfl,?_,hr'.le hX⟩;grind
 .rw[hmem];exact hq
def f1h{α β:Type}{p:α->β->Prop}{l:O α}{r:O β}{n:Int}{a:α}{b:β}(h:y7 p l r)(hp:p a b):y7 p (a8h l n a) (a8h r n b):=by
 unfold a8h;split;all_goals simp_all[c22]
def f4e(hU:UOK U)(h:Rel E Z π σ ρ w){t e:TypeId}{id:Nat}{c:U.C}{p:O PE}{l:O (U.T c)}{n:Int}{y0 y1:U.T c}{a1:U.AV}{ub:A5}{ad:Addr}(hmem:σ.mem id=.sl e c l)(hok:okV c p)(hget:c7 l n=some y0)(hf:b33 P t b=true)(hup:d0o b (inj c y0) p=some a1)(hprj:prj c a1=some y1)(hb:a1p (cx Z π σ w) b ub)(hy:ev ρ y=ub)(had:c5g (π id)=some ad)(hx:ev ρ x=.pointer (some (ad.add (d2l c (.i n::p)))))(hu:b7a σ id):a48 P E σ ρ w ⟨d,.store t x y,ty,ps,af,g⟩ .undef [(id,.sl e c (a8h l n y1))]:=by
 have hm:=h.mem id;rw[hmem]at hm;let⟨css,hO,hr⟩:=hm;let⟨r0,hr0,hrep⟩:=c45 hr hget;let⟨ad',cap,hv,hi,hca⟩:=Own.elem hO hr0;rw[hv]at had;cases had;let⟨hk1,hk2,hk3⟩:=a1w hU c y0;have hps:=d53 hU hprj;let⟨⟨u',hu',hr'⟩,hle,_⟩:=c4i hU hb (b0r hf).1 p _ c r0.1 a1 (by omega) (λ_=>by let⟨u,h1,h2⟩:=d9e hU hrep;exact⟨u,h1,h2⟩) hup (by cases hag:U.ag c with|true=>simp[inj,hag,a07]|false=>
    left;rcases d94 hup with h|⟨c1,h⟩;.omega
    .rw[hag]at hk2;cases hi:(inj c y0)<;>rw[hi]at h hk2<;>first|(cases h;done)|(cases hk2)) hok (by omega);have hrep1:=b85 hU hprj hr';have hY:=d4w (w:=w) (o:=⟨d,.store t x y,ty,ps,af,g⟩) λF pl hF hmu=>d49 (off:=b3g c p) hF hmu (λ_ h=>h) (λr=>r.2.1) hx hv (by simp [d2l]) hy hO hr0 (λad w=>d08 hU hf hb ad w) (by omega) (by rw[show(d0s hrep1).1=u'.cells.toList from rfl,hu']) (e1a (b0r hf).1 hb);have hY2:a0k P ⟨d,.store t x y,ty,ps,af,g⟩ (ev ρ) w λv w'=>v=undef/\Ext (λq=>(π id).ownBlock=some q) w w'/\Own 0 e (U.n c) Subtype.val w' (π id) (a8h css n (d0s hrep1)):=by unfold a0k at hY⊢;simp only[execOp,Sem.run_bind]at hY⊢;cases hr:(Instr.storeAt t _ _).run P w with|halt h0 w0=>simp_all|ok v0 w0=>rw[hr]at hY;exact⟨trivial,hY⟩
 refine hY2.mono λv w'⟨hv0,hE,hO'⟩=>⟨Z,π,?_⟩;subst hv0;refine h.set hu (λh=>by cases h) (hE.mono λq hq=>?_) (λX' hX hw=>?_) (λq hq=>?_) (λX' hX=>rfl);.rw[hmem];exact(a95 hv).1 hq
 .refine⟨_,by rw[hw];omega,?_⟩;exact f1h (hr.mono λr x hh=>c42 hX hh) (c42 hX hrep1)
 .rw[hmem];exact hq
def e7t(hU:UOK U)(h:Rel E Z π σ ρ w){t t0:TypeId}{id:Nat}{ca:U.C}{p:O PE}{xv:U.T ca}{n:Int}{y0 y1:U.T (U.ae ca)}{a1:U.AV}{ub:A5}{ad:Addr}(hmem:σ.mem id=.box t0 (.val ca xv))(hok:okV (U.ae ca) p)(hA:U.isA ca=true)(hget:c7 (U.al ca xv) n=some y0)(hf:b33 P t b=true)(hup:d0o b (inj (U.ae ca) y0) p=some a1)(hprj:prj (U.ae ca) a1=some y1)(hb:a1p (cx Z π σ w) b ub)(hy:ev ρ y=ub)(had:c5g (π id)=some ad)(hx:ev ρ x=.pointer (some (ad.add (d2l (U.ae ca) (.i n::p)))))(hu:b7a σ id):a48 P E σ ρ w ⟨d,.store t x y,ty,ps,af,g⟩ .undef [(id,.box t0 (.val ca (U.ast ca xv n y1)))]:=by
 have hm:=h.mem id;rw[hmem]at hm;let⟨blk,u,hv,hM,ha⟩:=hm;rw[hv]at had;cases had;let⟨cs,hcs,hrep⟩:=ha;let⟨_,css,hcss,hall⟩:=a91.1 hrep;rw[(hU.arr ca xv hA).1]at hall;let⟨h0,hg1,hg2⟩:=c3z (inj _) hget;let⟨s,hs,hfs⟩:=hall.get hg1;have ht:=c4n hU _ css n.toNat hall (by omega);have hk3:=(a1w hU _ y0).2.2;have hps:=d53 hU hprj;let⟨⟨u',hu',hr'⟩,hle,_⟩:=c4i hU hb (b0r hf).1 p _ _ s a1 (a9t hU hfs) (λ_=>by let⟨u,h1,h2⟩:=a18 hfs;exact⟨u,h1,h2⟩) hup (by have hk2:=(a1w hU _ y0).2.1;cases hag:U.ag (U.ae ca)with|true=>simp[inj,hag,a07]|false=>
    left;rcases d94 hup with h|⟨c1,h⟩;.omega
    .rw[hag]at hk2;cases hi:(inj _ y0)<;>rw[hi]at h hk2<;>first|(cases h;done)|(cases hk2)) hok (by omega);have hul:u'.cells.toList.length=s.length:=by rw[hu'];simp only[qL,length_take,length_drop];omega
 let⟨q1,q2⟩:=e3i css _ s hs;have hnew:(css.set n.toNat u'.cells.toList).flatten=cs.take (n.toNat*U.n (U.ae ca)+b3g (U.ae ca) p)++ub.cells.toList++cs.drop (n.toNat*U.n (U.ae ca)+b3g (U.ae ca) p+ub.cells.toList.length):=by rw[b3t css _ s _ hs hul,hul,hu'];have:=d9o q2 hle;rw[q1]at this;rw[ht]at this⊢;rw[hcss];omega
 have hL:n.toNat*U.n (U.ae ca)+b3g (U.ae ca) p+ub.cells.toList.length<=cs.length:=by rw[hcss];omega
 have hY:=d4w (o:=⟨d,.store t x y,ty,ps,af,g⟩) λF pl hF hmu=>c2z hF hmu (λ_ h=>h) hx rfl hy (show Mb w blk t0 cs by have h9:Mb w blk t0 _:=hM;rw[hcs]at h9;simpa[Value.cells]using h9) (λad w=>d08 hU hf hb ad w) hL rfl (e1a (b0r hf).1 hb);have hY2:a0k P ⟨d,.store t x y,ty,ps,af,g⟩ (ev ρ) w λv w'=>v=undef/\Ext (λq=>q=blk) w w'/\Mb w' blk t0 (cs.take (n.toNat*U.n (U.ae ca)+b3g (U.ae ca) p)++ub.cells.toList++cs.drop (n.toNat*U.n (U.ae ca)+b3g (U.ae ca) p+ub.cells.toList.length)):=by unfold a0k at hY⊢;simp only[execOp,Sem.run_bind]at hY⊢;cases hr:(Instr.storeAt t _ _).run P w with|halt h0 w0=>rw[hr]at hY;exact hY.elim|ok v0 w0=>rw[hr]at hY;exact⟨trivial,hY⟩
 refine hY2.mono λv w'⟨hv0,hE,hM'⟩=>⟨Z,π,?_⟩;subst hv0;refine h.set hu (λh=>by cases h) (hE.mono λq hq=>?_) (λX' hX hw=>?_) (λq hq=>?_) (λX' hX=>rfl);.subst hq;rw[hmem,hv];rfl
 .rw[hv];refine⟨blk,.agg _,rfl,?_,(css.set n.toNat u'.cells.toList).flatten,rfl,?_⟩
  .rw[hw];have:(Value.agg (css.set n.toNat u'.cells.toList).flatten.toArray).cells.toList=(css.set n.toNat u'.cells.toList).flatten:=by simp[Value.cells]
   rw[this,hnew];omega
  .refine c96 hU ?_;rw[(hU.arr ca _ hA).1,hU.ars ca xv n y1 hA];have e:(a8h (U.al ca xv) n y1).map (inj _)=((U.al ca xv).map (inj _)).set n.toNat (inj _ y1):=by unfold a8h;rw[if_pos h0,map_set]
   rw[e];exact c22 _ _ _ (hall.mono λa s hh=>hh.le hX) (b6w hU (c42 hX (b85 hU hprj hr')))
 .rw[hmem];exact hq
def c7k(hU:UOK U)(h:Rel E Z π σ ρ w){t:TypeId}{id:Nat}{c:U.C}{p:O PE}{ub:A5}{ad:Addr}(hf:b33 P t b=true)(hy1:a1p (cx Z π σ w) b ub)(hyv:ev ρ y=ub)(hu:b7a σ id)(had:c5g (π id)=some ad)(hv:ev ρ x=.pointer (some (ad.add (d2l c p))))(hcm:c18 c (σ.mem id) p=true)(hok:okP c p)(hev:(d92 (σ.mem id) p b λm'=>(Q.done .undef [(id,m')]:U.Q)).Ev σ m0 m v ws):a48 P E σ ρ w ⟨d,.store t x y,ty,ps,af,g⟩ v ws:=by
 cases hmem:σ.mem id<;>rw[hmem]at hev hcm<;>try exact hev.elim
 case box t0 a0=>
  have gen:(match d0o b a0 p with|some a'=>(match Nat.beq (asz a0) (asz a')&&(b0p a0==b0p a')&&b3a a0 with|true=>Q.done .undef [(id,.box t0 a')]|false=>.fail)|none=>(.fail)).Ev σ m0 m v ws->g59 c (.box t0 a0)=true->okV c p->ev ρ x=.pointer (some (ad.add (b3g c p)))->a48 P E σ ρ w ⟨d,.store t x y,ty,ps,af,g⟩ v ws:=by
   intro hev hcm hok hv;split at hev
   .rename_i a1 hup;split at hev
    .rename_i hs;obtain⟨hm1,rfl,rfl⟩:=hev;refine c4j hU h hmem (.inr ?_) hok hf hup hs hy1 hyv had hv hu;cases a0<;>try(cases hcm)
     all_goals have:=c0a hcm;subst this;rfl
    .exact hev.elim
   .exact hev.elim
  cases p with|nil=>exact gen (by cases a0<;>exact hev) (by cases a0<;>exact hcm) trivial hv|cons q p=>cases q with|f n=>exact gen (by cases a0<;>exact hev) (by cases a0<;>exact hcm) hok hv|i n=>
      have plain:d0o b a0 (.i n::p)=none->(match d0o b a0 (.i n::p)with|some a'=>(match Nat.beq (asz a0) (asz a')&&(b0p a0==b0p a')&&b3a a0 with|true=>Q.done .undef [(id,.box t0 a')]|false=>.fail)|none=>(.fail)).Ev σ m0 m v ws->a48 P E σ ρ w ⟨d,.store t x y,ty,ps,af,g⟩ v ws:=by intro hn hev;rw[hn]at hev;exact hev.elim
      cases a0<;>try exact plain rfl hev
      rename_i ca xv;have hev:(match U.isA ca with|true=>Q.opt _ _|false=>(.fail)).Ev σ m0 m v ws:=hev;have hcm:(U.isA ca&&eqC c _)=true:=hcm;simp [qB]at hcm;rw[hcm.1]at hev;let⟨y0,hy0,hev⟩:=hev;have hcc:=c0a hcm.2;subst hcc;dsimp only at hev;split at hev
      .rename_i a1 hup;split at hev;.rename_i y1 hprj;obtain⟨hm1,rfl,rfl⟩:=hev;exact e7t hU h hmem hok hcm.1 hy0 hf hup hprj hy1 hyv had hv hu
       .exact hev.elim
      .exact hev.elim
 case sl e c' l=>have:=c0a hcm;subst this;cases p with|nil=>exact hev.elim|cons q p=>cases q with|f n=>exact hev.elim|i n=>
      let⟨y0,hy0,hev⟩:=hev;dsimp only at hev;split at hev
      .rename_i a1 hup;split at hev;.rename_i y1 hprj;obtain⟨hm1,rfl,rfl⟩:=hev;exact f4e hU h hmem hok hy0 hf hup hprj hy1 hyv had hv hu
       .exact hev.elim
      .exact hev.elim
def d9q{mm:U.MC}{p:O PE}{k:U.MC->U.Q}(hev:(d92 mm p b k).Ev σ m0 m v ws):∃m' m1,(k m').Ev σ m1 m v ws/\∀(σ2:U.St)(k2:U.MC->U.Q)(m2:Nat)(v2:U.AV)(ws2:O (Nat×U.MC)),(k2 m').Ev σ2 m1 m2 v2 ws2->(d92 mm p b k2).Ev σ2 m1 m2 v2 ws2:=by
 cases mm<;>try exact hev.elim
 case box t0 a0=>
  have arr:∀(ca:U.C)(xv:U.T ca)(n:Int)(p':O PE),a0=.val ca xv->p=.i n::p'->∃m' m1,(k m').Ev σ m1 m v ws/\∀(σ2:U.St)(k2:U.MC->U.Q)(m2:Nat)(v2:U.AV)(ws2:O _),(k2 m').Ev σ2 m1 m2 v2 ws2->(d92 (.box t0 a0) p b k2).Ev σ2 m1 m2 v2 ws2:=by
   intro ca xv n p' e1 e2;subst e1;subst e2;have hev:(match U.isA ca with|true=>Q.opt _ _|false=>(.fail)).Ev σ m0 m v ws:=hev;split at hev
   .rename_i hA;let⟨y0,hy0,hev⟩:=hev;dsimp only at hev;split at hev
    .split at hev;.refine⟨_,_,hev,λσ2 k2 m2 v2 ws2 h2=>?_⟩;show(match U.isA ca with|true=>Q.opt _ _|false=>(.fail)).Ev σ2 _ _ _ _;rw[hA];refine⟨y0,hy0,?_⟩;simp_all
     .exact hev.elim
    .exact hev.elim
   .exact hev.elim
  have hb:(∃ca xv n p',a0=.val ca xv/\p=.i n::p')\/∀kk,d92 (.box t0 a0) p b kk=(match d0o b a0 p with|some a'=>(match Nat.beq (asz a0) (asz a')&&(b0p a0==b0p a')&&b3a a0 with|true=>kk (.box t0 a')|false=>.fail)|none=>(.fail)):=by
   cases a0;case val ca xv=>cases p with|nil=>exact .inr λ_=>rfl|cons q p=>cases q with|f n=>exact .inr λ_=>rfl|i n=>exact .inl ⟨_,_,n,p,rfl,rfl⟩
   all_goals exact .inr λ_=>by cases p<;>rfl
  rcases hb with⟨ca,xv,n,p',e1,e2⟩|hb;.grind
  rw[hb k]at hev;split at hev
  .rename_i a1 hup;split at hev;.rename_i hs;refine⟨_,_,hev,λσ2 k2 m2 v2 ws2 h2=>?_⟩;rw[hb k2];rw[hup];dsimp only;rw[hs];omega
   .exact hev.elim
  .exact hev.elim
 case sl e c l=>cases p with|nil=>exact hev.elim|cons q p=>cases q with|f n=>exact hev.elim|i n=>
      let⟨y0,hy0,hev⟩:=hev;dsimp only at hev;split at hev
      .split at hev;.refine⟨_,_,hev,λσ2 k2 m2 v2 ws2 h2=>⟨y0,hy0,?_⟩⟩;simp_all
       .exact hev.elim
      .exact hev.elim
def e4s(hU:UOK U)(h:Rel E Z π σ ρ w){t:TypeId}(hx:AVR (cx Z π σ w) a (ev ρ x))(hy:AVR (cx Z π σ w) b (ev ρ y))(hev:(e7c P fr t a b).Ev σ m0 m v ws):a48 P E σ ρ w ⟨d,.store t x y,ty,ps,af,g⟩ v ws:=by
 unfold e7c at hev;split at hev;case h_2=>exact hev.elim
 rename_i hf;have hy1:=a8m (b1s (b0r hf).1) hy;split at hev
 .rename_i id;have hev:(d92 _ [] b _).Ev σ _ m v ws:=hev;cases hmem:σ.mem id<;>rw[hmem]at hev<;>try exact hev.elim
  rename_i t0 a0;have e0:∀kk,d92 (.box t0 a0) [] b kk=(match Nat.beq (asz a0) _&&(b0p a0==b0p b)&&b3a a0 with|true=>kk _|false=>(.fail)):=λkk=>by cases a0<;>rfl
  rw[e0]at hev;split at hev
  .rename_i hs;have hm:=h.mem id;rw[hmem]at hm;let⟨blk,u,hv,hM,ha⟩:=hm;refine c44 (c4j hU h (c:=U.c0) hmem (.inl rfl) trivial hf rfl hs hy1 rfl (by rw[hv];rfl) ?_ hx.1) b6q (λi _ hn=>a5o (λe=>?_)) hev;.rw[hx.2.1];show π id=.pointer _;rw[hv];rfl
   simp_all
  .exact hev.elim
 .rename_i id c p;let⟨hu,ad,had,hok,hv⟩:=hx;have hev:(match c18 c _ p with|true=>(match g8q _ p b with|true=>d92 _ p b _|false=>(match c0t id b with|true=>.fail|false=>d93 [b] _))|false=>(.fail)).Ev σ _ m v ws:=hev;cases hcm:c18 c _ p with|false=>rw[hcm]at hev;exact hev.elim|true=>
    rw[hcm]at hev;dsimp only at hev;split at hev;.exact c7k hU h hf hy1 rfl hu had hv hcm hok hev
    .split at hev;.exact hev.elim
     rename_i hsame;let⟨as',fz,m1,hev,_,hfz,hfm,hA⟩:=c6x hU h (as:=[b]) (us:=[ev ρ y]) ⟨hy,trivial⟩ hev;split at hev;case h_2=>exact hev.elim
     split at hev;case h_2=>exact hev.elim
     rename_i hf';let⟨m',m2,hd,hset⟩:=d9q hev;let⟨_,hv0,hws⟩:=hd;rw[hv0,hws];have hmem':(σ.app none .unk fz).mem id=σ.mem id:=by rw[o8];cases hl:lk id fz with|none=>rfl|some mm=>have:=hfm _ (b1x hl);simp [qF]at this;rw[<-this]at hsame;simp[c0t]at hsame
     have hev2:=hset (σ.app none .unk fz) (λm'=>Q.done .undef [(id,m')]) m2 _ _ ⟨rfl,rfl,rfl⟩;rw[<-hmem']at hev2 hcm;exact f4w h hfz (c7k hU (h.freeze hfz) hf' (a8m (b1s (b0r hf').1) ((hA fz hfz λq hq=>⟨hq,e64 hq⟩).1)) rfl (by unfold b7a;rw[hmem'];exact hu) had hv hcm hok hev2)
 .exact hev.elim
def d8q{a:U.AV}(h:c06 a=true):a03 a=true:=by cases a<;>first|rfl|cases h
def e9m(hU:UOK U){X:Cx}{c:U.C}{z:U.T c}{u:A5}(h:a1p X (.val c z:U.AV) u):a1p X (.st c (U.flds c z):U.AV) u:=by
 let⟨cs,hv,hr⟩:=h;obtain⟨_,css,rfl,hh⟩:=a91.1 hr;refine⟨css,hv,hU.lay c z,qX.2 λa ha=>d8q (qX.1 (hU.kind c z) a ha),?_⟩;have key:∀(as:O U.AV)(css:O _),as.all c06=true->y7 (e8 Rp X.G X.w) as css->y7 (λa cs=>∃u:A5,u.cells.toList=cs/\b79 X a u) as css:=by intro as;induction as with
  |nil=>intro css _ h;cases css with|nil=>exact trivial|cons=>exact h.elim
  |cons a as ih=>intro css hk h;cases css with|nil=>exact h.elim|cons s css=>simp only[all_cons,qB]at hk;let⟨u1,hu1,hr1⟩:=a18 h.1;refine⟨⟨u1,hu1,?_⟩,ih css hk.2 h.2⟩;cases a<;>first|exact hr1|cases hk.1
 exact key _ _ (hU.kind c z) hh
def Rel.congrE{σ':U.St}(h:Rel E Z π σ' ρ w)(hs:∀t,σ.slot t=σ'.slot t)(hm:∀id,σ.mem id=σ'.mem id):Rel E Z π σ ρ w:=by
 have hcx:cx Z π σ w=cx Z π σ' w:=by unfold cx;unfold b7a;simp_all
 exact⟨λt=>by rw[hcx,hs];exact h.slot t,λid=>by rw[hcx,hm];exact h.mem id,λid b hb=>h.own id b (by simp_all),λid id' b hne hb=>by rw[hm]at hb⊢;exact h.dist id id' b hne hb,h.zlt,h.zin,h.zout,h.ext,λid hp=>⟨by unfold b7a;rw[hm];exact(h.pin id hp).1,(h.pin id hp).2⟩,h.tab⟩
def e04(hU:UOK U)(h:Rel E Z π σ ρ w){t:TypeId}(hx:AVR (cx Z π σ w) a (ev ρ x))(hy:AVR (cx Z π σ w) b (ev ρ y))(hev:(e11 P fr t a b).Ev σ m0 m v ws):a48 P E σ ρ w ⟨d,.store t x y,ty,ps,af,g⟩ v ws:=by
 unfold e11 at hev;split at hev;case h_2=>exact hev.elim
 rename_i id c n hf;have hy1:=a8m (b1s (b0r hf).1) hy;let⟨hu,ad,had,hok,hv⟩:=hx;have hev:(match σ.mem id with|.box t' (.val c' z)=>(match eqC c c'&&!(c0t id b)with|true=>d92 _ _ b _|false=>.fail)|.box t' (.st c' fs)=>(match eqC c c'&&!(c0t id b)with|true=>d92 _ _ b _|false=>.fail)|_=>(.fail)).Ev σ _ m v ws:=hev;split at hev
 .rename_i t' c' z hmem;split at hev;case h_2=>exact hev.elim
  rename_i hck;have hm:=h.mem id;rw[hmem]at hm;let⟨blk,u,hpv,hM,ha⟩:=hm;let⟨σ1,hσ1⟩:∃σ1,σ1=σ.app none .unk [(id,.box t' (.st c' (U.flds c' z)))]:=⟨_,rfl⟩;have h1:Rel E Z π σ1 ρ w:=by rw[hσ1];exact h.set (mc:=.box t' _) (v':=undef) (λhh=>by rw[hmem]at hh;cases hh) (λhh=>by cases hh) (Ext.refl _ w) (λX' hle hw=>⟨blk,u,hpv,by rw[hw];exact hM,e9m hU (ha.le hle)⟩) (λq hq=>by rw[hmem];exact hq) λ_ _=>trivial
  have hmem1:σ1.mem id=.box t' (.st c' (U.flds c' z)):=by rw[hσ1];exact b6q
  have hmo:∀j,j≠id->σ1.mem j=σ.mem j:=λj hj=>by rw[hσ1,o8,a5o hj]
  have hcx:cx Z π σ1 w=cx Z π σ w:=by
   unfold cx;congr 1;funext j;unfold b7a;by_cases hj:j=id;.subst hj;rw[hmem1,hmem];exact propext ⟨λ_=>λhh=>(by cases hh),λ_=>λhh=>(by cases hh)⟩
   .rw[hmo j hj]
  let⟨m',m3,hd,hset⟩:=d9q hev;split at hd
  .have hev2:=hset σ1 (λm'=>Q.done .undef [(id,m')]) m3 _ _ ⟨rfl,rfl,rfl⟩;simp [qB]at hck;rw[<-hmem1]at hev2;refine c44 ?_ b6q (λi _ hn=>a5o (λe=>?_)) hd
   .refine a0k.mono (c7k hU h1 hf (by rw[hcx];omega) rfl (by unfold b7a;rw[hmem1];intro hh;cases hh) had hv (by rw[hmem1];exact hck.1) hok hev2) λu w'⟨Z',π',hR⟩=>⟨Z',π',hR.congrE (λt=>?_) λj=>?_⟩;.rw[s9,hσ1,s9];rfl
    .rw[o8,o8];by_cases hj:j=id;.subst hj;rw[b6v]
     .rw[a5o hj];exact(hmo j hj).symm
   .rw[e,hmem]at hn;cases hn
  .exact hd.elim
 .rename_i t' c' fs hmem;split at hev;case h_2=>exact hev.elim
  rename_i hck;simp [qB]at hck;let⟨m',m3,hd,hset⟩:=d9q hev;split at hd;.have hev2:=hset σ (λm'=>Q.done _ [(id,m')]) m3 .undef _ ⟨rfl,rfl,rfl⟩;rw[<-hmem]at hev2;exact c44 (c7k hU h hf hy1 rfl hu had hv (by rw[hmem];exact hck.1) hok hev2) b6q (λi _ hn=>a5o (λe=>by rw[e,hmem]at hn;cases hn)) hd
  .exact hd.elim
 .exact hev.elim
end
section
variable {P:Program} {U:Uni} {E:Env} {Z:Nat -> Prop} {π:Nat -> A5} {σ:U.St} {ρ:Nat -> A5} {w:World}
variable {d:A3 Tmp} {ty:TypeId} {ps:String} {af:Array Edge} {g:A3 (Nat×Bool)} {x y z:Operand} {m0 m:Nat} {a b v:U.AV} {ws:O (Nat×U.MC)} {fr:Nat}
def e6a(o:Nat)(vs cells:Array A5)(h:o+vs.size<=cells.size):(vs.zipIdx.foldl (λcs(c,j)=>cs.setIfInBounds (o+j) c) cells).toList=cells.toList.take o++vs.toList++cells.toList.drop (o+vs.toList.length):=by
 rw[<-Array.foldl_toList,Array.toList_zipIdx];let⟨h1,h2⟩:=(Great.foldl_set o vs.toList 0 cells);apply ext_getElem?;intro k;rw[Array.getElem?_toList];have h3:=h2 k;simp only[Nat.add_zero]at h3;refine Eq.trans h3 ?_;have hl:vs.toList.length=vs.size:=by simp
 have hc:cells.toList.length=cells.size:=by simp
 rw[getElem?_append,getElem?_append];simp only[qL,length_take,hl,hc,Nat.min_eq_left (show o<=cells.size by omega)];by_cases k1:k<o;.rw[if_neg (by omega),if_pos (by omega),if_pos k1,getElem?_take_of_lt k1,Array.getElem?_toList]
 .by_cases k2:k<o+vs.size;.rw[if_pos ⟨by omega,k2,by omega⟩,if_pos k2,if_neg k1]
  .rw[if_neg (by omega),if_neg k2,getElem?_drop,Array.getElem?_toList];congr 1;omega
def e9g(l:O Nat)(i:Nat):Nat:=(l.take i).sum
def f8i:∀(css:O (O A5)),css.flatten.length=(css.map List.length).sum:=by grind
def c82:∀(css:O (O A5))(i:Nat)(s t:O A5),css[i]?=some s->t.length=s.length->(css.set i t).map List.length=css.map List.length|[],i,s,t,h,_=>by grind|c::css,0,s,t,h,hl=>by simp_all|c::css,i+1,s,t,h,hl=>by simp only[set_cons_succ,map_cons];rw[c82 css i s t (by simp_all) hl]
def d3l{X:Cx}{place:Nat->A3 (Nat×Nat)}{sz:O Nat}(hpl:∀i n,sz[i]?=some n->place i=some (e9g sz i,n)):∀(is:O Nat)(as:O U.AV)(us:O A5)(fs gs:O U.AV)(css:O (O A5))(cells:Array A5),as.all a03=true->y7 (a1p X) as us->g6q fs is as=some gs->is.length=as.length->cells.toList=css.flatten->css.map List.length=sz->fs.map asz=sz->y7 (λa s=>∃u,u.cells.toList=s/\a1p X a u) fs css->∃css' cells',Instr.fill place cells (is.zip us)=some cells'/\cells'.toList=css'.flatten/\y7 (λa s=>∃u,u.cells.toList=s/\a1p X a u) gs css'
 |[],as,us,fs,gs,css,cells,hp,hr,hs,hlen,hc,hz,hfz,hall=>by
   have:=by simpa[g6q]using hs
   subst this;exact⟨css,cells,rfl,hc,hall⟩|i::is,[],us,fs,gs,css,cells,hp,hr,hs,hlen,hc,hz,hfz,hall=>by simp_all|i::is,a::as,[],fs,gs,css,cells,hp,hr,hs,hlen,hc,hz,hfz,hall=>hr.elim|i::is,a::as,u::us,fs,gs,css,cells,hp,hr,hs,hlen,hc,hz,hfz,hall=>by
   simp [g6q]at hs;split at hs
   .rename_i b hb;split at hs
    .rename_i hok;simp only[qB]at hok;have hsz:=qC hok.1;simp only[all_cons,qB]at hp;have hul:=c49 hp.1 (hr.1.to0 hp.1);let⟨s,hs1,hs2⟩:=hall.get hb;have hsl:s.length=asz b:=by
      have h2:(fs.map asz)[i]?=some (asz b):=by rw[getElem?_map,hb];rfl
      grind
     have hul2:u.cells.toList.length=s.length:=by omega
     have hoff:e9g sz i=(css.take i).flatten.length:=by unfold e9g;rw[f8i,map_take,hz]
     have hcs:cells.size=css.flatten.length:=by rw[<-hc];simp
     have hbound:(css.take i).flatten.length+s.length<=css.flatten.length:=by
      have:=b3t css i s s hs1 rfl;have h2:=congrArg List.length this;have h3:(css.set i s)=css:=by
       apply ext_getElem?;intro k;rw[getElem?_set];split;.rename_i hk;subst hk;have:=(qD.1 hs1);simp[this.1,this.2]
       .rfl
      rw[h3]at h2;have h4:(css.take i).flatten.length<=css.flatten.length:=by
       conv=>rhs;rw[<-take_append_drop i css,flatten_append,qL]
       omega
      simp only[qL,length_take,length_drop]at h2;omega
     have husz:u.cells.size=asz b:=by rw[<-hsl,<-hul2];simp
     let⟨css',cells',h1,h2,h3⟩:=d3l hpl is as us _ gs _ (u.cells.zipIdx.foldl (λcs(c,j)=>cs.setIfInBounds (e9g sz i+j) c) cells) hp.2 hr.2 hs (by simpa using hlen) (by rw[(e6a _ _ _ (by omega)),b3t css i s _ hs1 hul2,hc,hoff]) (by rw[c82 css i s _ hs1 hul2,hz])
      (by rw[<-hfz];apply ext_getElem?;intro k;rw[getElem?_map,getElem?_set,getElem?_map];split;.rename_i hk;subst hk;rw[if_pos ((qD.1 hb).1),hb];simp[hsz]
          .rfl) (c22 i a _ hall ⟨u,rfl,hr.1⟩);refine⟨css',cells',?_,h2,h3⟩;simp only[zip_cons_cons,Instr.fill,hpl i _ (by rw[<-hfz,getElem?_map,hb];rfl),husz];first|exact h1|(rw[if_neg (by grind)];omega)
    simp_all
   simp_all
def c6p{α β:Type}{f:α->Sem β}{gg:α->β}:∀{l:O α},(∀x∈l,(f x).run P w=.ok (gg x) w)->(l.mapM f).run P w=.ok (l.map gg) w:=by intro a;induction a<;>simp_all
def e0v{α β:Type}{f:α->Sem β}{gg:α->β}{l:Array α}(h:∀x∈l.toList,(f x).run P w=.ok (gg x) w):(l.mapM f).run P w=.ok (l.map gg) w:=by rw[Array.mapM_eq_mapM_toList];simp[c6p h];apply Array.ext';simp
def d3x{c:U.C}{fs:O Field}(h:d4d P c fs=true):fs.length=(U.lay c).length/\∀i f,fs[i]?=some f->∃o,(U.lay c)[i]?=some o/\f.offset=off c i/\e54 P f.type (osz o)=true:=by unfold d4d at h;simp only[qB]at h;refine⟨(qC h.1),λi f hf=>?_⟩;have h2:=qX.1 h.2 i (by simpa using ((qD.1 hf).1));rw[hf]at h2;cases ho:(U.lay c)[i]?with|none=>grind|some o=>rw[ho]at h2;simp only[qB]at h2;exact⟨o,rfl,qC h2.1,h2.2⟩
def d3w(l:O (Nat×Operand)):(l.toArray.map λ(i,x)=>(i,ev ρ x)).toList=(l.map (·.1)).zip ((l.map (·.2)).map (ev ρ)):=by grind
def e06{X:Cx}:∀{zs:O U.AV}{css:O (O A5)},y7 (FV X) zs css->css.map List.length=zs.map asz|[],[],_=>rfl|a::zs,s::css,h=>by simp [map_cons,h.1.1,e06 h.2]|[],_::_,h=>h.elim|_::_,[],h=>h.elim
def e6e(hU:UOK U)(h:Rel E Z π σ ρ w){t:TypeId}{psr:Array (Nat×Operand)}{as:O U.AV}(hx:y7 (AVR (cx Z π σ w)) as ((psr.toList.map (·.2)).map (ev ρ)))(hev:(f0r P t (psr.toList.map (·.1)) as).Ev σ m0 m v ws):a48 P E σ ρ w ⟨d,.build t psr,ty,ps,af,g⟩ v ws:=by
 unfold f0r at hev;split at hev;case h_2=>exact hev.elim
 rename_i fs c zv hu hc hz;split at hev;case h_2=>exact hev.elim
 rename_i c' zs hzs;split at hev;case h_2=>exact hev.elim
 rename_i hfo;let⟨as',fz,m1,hev,_,hfz,_,hrep⟩:=c6x hU h hx hev;split at hev;case h_2=>exact hev.elim
 rename_i gs hpl hset;split at hev;case h_2=>exact hev.elim
 rename_i yv hmk;let⟨hm1,hv0,hws⟩:=hev;subst hv0;rw[hws];have hrep1:=b6t (b99 (qX.2 λa ha=>by have:=qX.1 hpl a ha;cases a<;>first|exact this|cases this)) (hrep fz hfz λq hq=>⟨hq,e64 hq⟩);unfold b7m at hz;split at hz;case h_2=>cases hz
 rename_i ti hti;split at hz;case h_2=>cases hz
 rename_i z0 hz0;let⟨uz,huz,hrz⟩:=c13 hU (X:=cx (Zf Z π σ fz) π (σ.app none .unk fz) w) _ _ _ _ hz;have hzf:∃css,y7 (FV (cx (Zf Z π σ fz) π (σ.app none .unk fz) w)) zs css/\uz.cells.toList=css.flatten/\zs.map a07=U.lay c':=by
  cases zv<;>try(cases hzs;done)
  .cases hzs;obtain⟨cs,rfl,hrz⟩:=hrz;obtain⟨hl,css,rfl,hall⟩:=a91.1 hrz;exact⟨css,c4g hU hall,by simp[Value.cells],hU.lay _ _⟩
  .cases hzs;obtain⟨css,rfl,hlay,hpp,hr⟩:=hrz;exact⟨css,c7h hpp hr,by simp[Value.cells],hlay⟩
 let⟨css,hall,hcs,hlay⟩:=hzf;let⟨hfl,hff⟩:=d3x hfo;have hsz:zs.map asz=(U.lay c').map osz:=by rw[<-hlay,map_map];exact map_congr_left λa _=>(b0z a).symm
 have hplace:∀i n,((U.lay c').map osz)[i]?=some n->((fs.map λf=>(f.offset,szT P f.type))[i]?)=some (e9g ((U.lay c').map osz) i,n):=by intro i n hi;rw[getElem?_map]at hi;cases ho:(U.lay c')[i]?with|none=>rw[ho]at hi;cases hi|some o=>
    rw[ho]at hi;have hlt:i<fs.toList.length:=by rw[hfl];exact(qD.1 ho).1
    let⟨o',ho',h2,h3⟩:=hff i _ (qG hlt);rw[ho]at ho';cases ho';have h4:=a9m h3;simp only[Array.getElem?_map,Array.getElem?_eq_getElem (by omega),Option.map_some];have e1:fs.toList[i]=fs[i]:=by simp
    rw[e1]at h2 h4;rw[h2];have e2:szT P fs[i].type=osz o:=by unfold szT;cases hi2:P.info? _ with|none=>rw[hi2]at h4;cases h4|some q=>rw[hi2]at h4;exact qH h4
    rw[e2,(qH hi)];unfold e9g off;rw[map_take]
 let⟨css',cells',hfill,hcells,hall'⟩:=d3l hplace _ as' _ zs gs css z0.cells hpl hrep1 hset (by rw[y7.length hrep1];simp) (by rw[<-huz];omega) (by rw[<-hsz];exact e06 hall) hsz (hall.mono λa s hh=>hh.2);refine g8 (h.freeze hfz) ?_ (AVR.of1 (by have h9:=e4a hU hmk hall';rw[<-hcells]at h9;omega));refine f0w rfl ?_;have hmap:(fs.mapM λf=>do pure (f.offset,<-sizeOf f.type):Sem _).run P w=.ok (fs.map λf=>(f.offset,szT P f.type)) w:=by
  refine e0v λf hf=>?_;obtain⟨i,hi,rfl⟩:=getElem_of_mem hf;let⟨o,_,_,h3⟩:=hff i _ (qG hi);have h4:=a9m h3;have e2:szT P fs.toList[i].type=osz o:=by unfold szT;cases hi2:P.info? _ with|none=>rw[hi2]at h4;cases h4|some q=>rw[hi2]at h4;exact qH h4
  rw[Sem.run_bind,b45 h3,<-e2];rfl
 have hzv:(zeroValue t).run P w=.ok z0 w:=by simp[zeroValue,typeInfo,hti,hz0]
 unfold Instr.build;rw[Sem.run_bind,hzv];simp only[Result.andThen_ok];rw[Sem.run_bind,b55 hu];simp only[Result.andThen_ok];rw[Sem.run_bind,hmap];simp only[Result.andThen_ok,(d3w _)];rw[hfill];rfl
def f4t(m k:Nat):∀(i:Nat),i<=m->e9g (List.replicate m k) i=i*k:=by simp_all[e9g]
def e1q(hU:UOK U)(h:Rel E Z π σ ρ w){t:TypeId}{psr:Array (Nat×Operand)}{as:O U.AV}(hx:y7 (AVR (cx Z π σ w)) as ((psr.toList.map (·.2)).map (ev ρ)))(hev:(d9k P t (psr.toList.map (·.1)) as).Ev σ m0 m v ws):a48 P E σ ρ w ⟨d,.build t psr,ty,ps,af,g⟩ v ws:=by
 unfold d9k at hev;split at hev;case h_2=>exact hev.elim
 rename_i c zv hz;split at hev;case h_2=>exact hev.elim
 rename_i hok;let⟨as',fz,m1,hev,_,hfz,_,hrep⟩:=c6x hU h hx hev;split at hev;case h_2=>exact hev.elim
 rename_i gs hpl hset;split at hev;case h_2=>exact hev.elim
 rename_i yv hmk;let⟨hm1,hv0,hws⟩:=hev;subst hv0;rw[hws];have hrep1:=b6t (b99 (qX.2 λa ha=>by have:=qX.1 hpl a ha;cases a<;>first|exact this|cases this)) (hrep fz hfz λq hq=>⟨hq,e64 hq⟩);unfold b7m at hz;split at hz;case h_2=>cases hz
 rename_i ti hti;split at hz;case h_2=>cases hz
 rename_i z0 hz0;let⟨uz,huz,hrz⟩:=c13 hU (X:=cx (Zf Z π σ fz) π (σ.app none .unk fz) w) _ _ _ _ hz;obtain⟨cs,rfl,hrz⟩:=hrz;obtain⟨hl,css,rfl,hall⟩:=a91.1 hrz;unfold d14 at hok;split at hok;case h_2=>cases hok
 rename_i n e hu;simp only[qB]at hok;let⟨⟨hA,hmn⟩,he2⟩:=hok;have hall2:=c4g hU hall;have hsz:(U.flds c zv).map asz=List.replicate n (U.n (U.ae c)):=by rw[(hU.arr c zv hA).1,map_map,(qC hmn),<-(hU.arr c zv hA).2];apply ext_getElem?;intro k;rw[getElem?_map,getElem?_replicate];cases hk:(U.al c zv)[k]?with|none=>have:=List.getElem?_eq_none_iff.1 hk;rw[if_neg (by omega)];rfl|some q=>have:=(qD.1 hk).1;rw[if_pos this];simp[(a1w hU _ q).2.2]
 have hplace:∀i k,(List.replicate n (U.n (U.ae c)))[i]?=some k->(λi=>some (i*U.n (U.ae c),U.n (U.ae c))) i=some (e9g (List.replicate n (U.n (U.ae c))) i,k):=by
  intro i k hi;rw[getElem?_replicate]at hi;split at hi;.rename_i hlt;cases hi;rw[f4t n _ i (Nat.le_of_lt hlt)]
  .cases hi
 let⟨css',cells',hfill,hcells,hall'⟩:=d3l hplace _ as' _ _ gs css z0.cells hpl hrep1 hset (by rw[y7.length hrep1];simp) (by rw[<-huz];simp[Value.cells]) (by rw[<-hsz];exact e06 hall2) hsz (hall2.mono λa s hh=>hh.2);refine g8 (h.freeze hfz) (v:=.agg cells') ?_ (AVR.of1 ⟨cells'.toList,by simp,by rw[hcells];exact d1x hU hmk hall'⟩);refine f0w rfl ?_;have hzv:(zeroValue t).run P w=.ok z0 w:=by simp[zeroValue,typeInfo,hti,hz0]
 unfold Instr.build;rw[Sem.run_bind,hzv];simp only[Result.andThen_ok];rw[Sem.run_bind,b55 hu];simp only[Result.andThen_ok];rw[Sem.run_bind,b45 he2];simp only[Result.andThen_ok,(d3w _)];rw[hfill];rfl
def e45{X:Cx}{gg:TypeId->U.AV->U.AV->A3 Bool}{d:Nat}(hg:∀t a b r,gg t a b=some r->∀u v,a1p X a u->a1p X b v->(Op.equalIn d t u v).run P w=.ok r w):∀(fs:O Field)(o:Nat)(as bs:O U.AV)(r:Bool)(pa pb:O A5)(ca cb:O (O A5)),h1i P gg o fs as bs=some r->pa.length=o->pb.length=o->y7 (FV X) as ca->y7 (FV X) bs cb->(Op.eqFields d (pa++ca.flatten).toArray (pb++cb.flatten).toArray fs).run P w=.ok r w
 |[],o,as,bs,r,pa,pb,ca,cb,h,_,_,_,_=>by
   have hr:r=true:=by cases as<;>cases bs<;>first|(cases h;rfl)|cases h
   subst hr;exact g44 rfl|f::fs,o,as,bs,r,pa,pb,ca,cb,h,hpa,hpb,ha,hb=>by cases as with|nil=>cases h|cons a as=>cases bs with|nil=>cases h|cons b bs=>cases ca with|nil=>exact ha.elim|cons sa ca=>cases cb with|nil=>exact hb.elim|cons sb cb=>
           simp [h1i]at h;split at h;case h_2=>grind
           rename_i hc;simp only[qB,bne_iff_ne,ne_eq]at hc;let⟨hn,ho,hfa,hfb,hp,hq,hsz⟩:=hc;have ho:=qC ho;split at h;case h_2=>grind
           rename_i r1 hr1;split at h;case h_2=>grind
           rename_i q hq2;cases h;let⟨hla,ua,hua,hra⟩:=ha.1;let⟨hlb,ub,hub,hrb⟩:=hb.1;have pt:∀{x:U.AV}{px sx:O A5}{cx:O _}{ux:A5},b33 P f.type x=true->a03 x=true->px.length=o->sx.length=asz x->ux.cells.toList=sx->a1p X x ux->(part f.type (px++(sx::cx).flatten).toArray f.offset).run P w=.ok ux w:=by
            intro x px sx cx ux hf hpx hl hs hu hr;refine e93 hf hpx (hr.to0 hpx) ?_ ?_;.rw[ho,<-hl,drop_left,flatten_cons,<-hs,take_left,hu]
            .rw[ho];simp[hl,hs]
           refine f8g ?_ (pt hfa hp hpa hla hua hra) (pt hfb hq hpb hlb hub hrb) (hg _ _ _ _ hr1 _ _ hra hrb) ?_
           .have:=by simpa using hn
            simp[this]
           .have e1:pa++(sa::ca).flatten=(pa++sa)++ca.flatten:=by simp
            have e2:pb++(sb::cb).flatten=(pb++sb)++cb.flatten:=by simp
            rw[e1,e2];exact e45 hg fs _ as bs q _ _ ca cb hq2 (by simp[hpa,hla]) (by simp[hpb,hlb,(qC hsz)]) ha.2 hb.2
def e7w(hU:UOK U){X:Cx}:∀(n:Nat)(t:TypeId)(a b:U.AV)(r:Bool),eqA P n t a b=some r->∀(u v:A5)(d:Nat),a1p X a u->a1p X b v->(Op.equalIn (d+n) t u v).run P w=.ok r w
 |0,_,_,_,_,h,_,_,_,_,_=>by cases h|n+1,t,a,b,r,h,u,v,d,ha,hb=>by
   simp [eqA]at h;split at h
   .split at h
    .rename_i k x k' y kk ht hk;cases h;unfold eqK at hk;split at hk;.rename_i he _;subst he;have hu:=ha;have hv:=hb;rw[hu,hv];exact run_equalIn_int w _ _ _ _ _ _ ht
     grind
    grind
   .split at h;.rename_i ht;cases h;have hu:=ha;have hv:=hb;rw[hu,hv];exact run_equalIn_bool' w _ _ _ _ ht
    grind
   .split at h;.rename_i ht;cases h;have hu:=ha;have hv:=hb;rw[hu,hv];exact run_equalIn_string w _ _ _ _ ht
    grind
   .split at h;case h_2=>grind
    rename_i ca as cb bs hfa hfb;split at h;case h_2=>grind
    rename_i fs ht hst;have parts:∀{x:U.AV}{c:U.C}{xs:O _}{ux:A5},f7q x=some (c,xs)->a1p X x ux->∃css,ux=.agg css.flatten.toArray/\y7 (FV X) xs css:=by
     intro x c xs ux hx hr;cases x<;>try(cases hx;done)
     .cases hx;let⟨cs,hu,hr⟩:=hr;let⟨_,css,hcs,hall⟩:=a91.1 hr;exact⟨css,by grind,c4g hU hall⟩
     .cases hx;let⟨css,hu,_,hp,hr⟩:=hr;exact⟨css,hu,c7h hp hr⟩
    let⟨c1,hu,h1⟩:=parts hfa ha;let⟨c2,hv,h2⟩:=parts hfb hb;have hfo:P.fieldsOf t=fs:=by simp[Program.fieldsOf,ht]
    rw[hu,hv,show d+(n+1)=(d+n)+1from rfl,run_equalIn_agg w _ t _ _ (by grind) hst,hfo];have:=e45 (λt a b r hr u v hu hv=>e7w hU n t a b r hr u v d hu hv) _ 0 as bs r [] [] c1 c2 h rfl rfl h1 h2;simpa using this
def f3p(hU:UOK U)(h:Rel E Z π σ ρ w){op:BinOp}{t t':TypeId}(hv:(b0p a&&b0p b)=true)(hx:AVR (cx Z π σ w) a (ev ρ x))(hy:AVR (cx Z π σ w) b (ev ρ y))(hev:(h3e P op t a b).Ev σ m0 m v ws):a48 P E σ ρ w ⟨d,.binOp op t x y t',ty,ps,af,g⟩ v ws:=by
 simp [qB]at hv;have agg:∀{q:U.AV}{uq:A5},b0p q=true->AVR (cx Z π σ w) q uq->a1p (cx Z π σ w) q uq/\∃xs,uq=.agg xs:=by
  intro q uq hq hr;cases q<;>try(cases hq)
  .let⟨cs,hu,hr⟩:=hr;exact⟨⟨cs,hu,hr⟩,_,hu⟩
  .let⟨css,hu,hr⟩:=hr;exact⟨⟨css,hu,hr⟩,_,hu⟩
 let⟨hx1,xs,hxs⟩:=agg hv.1 hx;let⟨hy1,ys,hys⟩:=agg hv.2 hy;unfold h3e at hev;split at hev;case h_2=>exact hev.elim
 rename_i r hg he;have hrun:=e7w hU (w:=w) 100 t a b r he _ _ 9900 hx1 hy1;rw[hxs,hys]at hrun;split at hev;.obtain⟨_,rfl,rfl⟩:=hev;exact g8 h (h3y hxs hys hg hrun rfl) rfl
 .obtain⟨_,rfl,rfl⟩:=hev;exact g8 h (h42 hxs hys hg hrun rfl) rfl
 .exact hev.elim
end
section
variable {P:Program} {U:Uni} {E:Env} {Z:Nat -> Prop} {π:Nat -> A5} {σ:U.St} {ρ:Nat -> A5} {w:World}
variable {d:A3 Tmp} {ty:TypeId} {ps:String} {af:Array Edge} {g:A3 (Nat×Bool)} {x y z:Operand} {m0 m:Nat} {a b v:U.AV} {ws:O (Nat×U.MC)} {fr:Nat}
def d1d{n:Nat}(hn:0<n):∀(vs:O A5)(k:Nat),(∀v∈vs,v.cells.size=n)->(vs.flatMap λv=>v.cells.toList)[k]?=(vs[k/n]?).bind λv=>v.cells[k%n]?
 |[],k,_=>by simp|v::vs,k,h=>by
   have hv:=h v (by simp);rw[flatMap_cons,getElem?_append];have hl:v.cells.toList.length=n:=by omega
   by_cases hk:k<n;.rw[if_pos (by omega),Nat.div_eq_of_lt hk,Nat.mod_eq_of_lt hk];simp
   .rw[if_neg (by omega),hl,(d1d hn vs _ λu hu=>h u (by grind))];have e1:k/n=(k-n)/n+1:=by rw[Nat.div_eq_sub_div hn (by omega)]
    rw[e1,getElem?_cons_succ,((Nat.mod_eq_sub_mod (by omega)).symm)]
def d6n:∀(is:O Nat)(k:Nat)(us:O A5),d48 k is=true->is.length=us.length->is.zip us=(us.zipIdx k).map λx=>(x.2,x.1)|[],k,[],_,_=>rfl|i::is,k,u::us,h,hl=>by simp only[d48,qB]at h;have:=qC h.1;subst this;simp[d6n is _ us h.2 (by simp_all)]|[],_,_::_,_,hl=>by simp_all|_::_,_,[],_,hl=>by simp_all
def e3x(hU:UOK U){X:Cx}{c:U.C}:∀{as:O U.AV}{us:O A5}{l:O (U.T c)},h1u c as=some l->y7 (a1p X) as us->y7 (λu x=>(Rp c).rep X.G X.w u.cells.toList x) us l
 |[],[],l,h,_=>by cases h;trivial|a::as,u::us,l,h,hr=>by
   simp [h1u]at h;split at h
   .rename_i xv hx;split at h;.rename_i l' hl;cases h;exact⟨b85 hU hx hr.1,e3x hU hl hr.2⟩
    grind
   grind|[],_::_,_,_,hh=>hh.elim|_::_,[],_,_,hh=>hh.elim
def g3u{G:Nat->Prop}{w:World}{c:U.C}:∀(us:O A5)(l:O (U.T c)),y7 (λu x=>(Rp c).rep G w u.cells.toList x) us l->O (Raw (U.n c))|[],[],_=>[]|u::us,x::l,h=>d0s h.1::g3u us l h.2|[],_::_,h=>h.elim|_::_,[],h=>h.elim
def d61{G:Nat->Prop}{w:World}{c:U.C}:∀(us:O A5)(l:O (U.T c))(h:y7 (λu x=>(Rp c).rep G w u.cells.toList x) us l),(g3u us l h).flatMap Subtype.val=us.flatMap (λv=>v.cells.toList)/\y7 (λ(r:Raw (U.n c))x=>(Rp c).rep G w r.1 x) (g3u us l h) l/\(g3u us l h).length=us.length|[],[],_=>⟨rfl,trivial,rfl⟩|u::us,x::l,h=>by let⟨h1,h2,h3⟩:=d61 us l h.2;exact⟨by simp[g3u,h1,d0s],⟨h.1,h2⟩,by simp[g3u,h3]⟩|[],_::_,h=>h.elim|_::_,[],h=>h.elim
def b28{fr:Nat}{k:U.Q}(hev:(Q.rdM fr λ|.never=>k|_=>(.fail:U.Q)).Ev σ m0 m v ws):σ.mem fr=.never/\∃m1,k.Ev σ m1 m v ws:=by
 have hev:(match σ.mem fr with|.never=>k|_=>(.fail)).Ev σ _ m v ws:=hev;split at hev;.grind
 .exact hev.elim
def f2y{fz:O (Nat×U.MC)}(hf:FZ σ fz)(hn:σ.mem fr=.never):(σ.app none .unk fz).mem fr=.never:=by rw[o8];cases hl:lk fr fz with|none=>omega|some m=>let⟨e,c,l,h1,_⟩:=e6i hf hl;grind
def c1w{e n:Nat}(h:d81 P e n=true):∃ie zv,P.info? e=some ie/\ie.zero=some zv/\zv.cells.size=n/\ie.size=n/\0<n/\0<ie.bytes:=by
 unfold d81 at h;split at h;.split at h;all_goals simp_all
 grind
def d09(hU:UOK U)(h:Rel E Z π σ ρ w){t:TypeId}{len:Nat}{psr:Array (Nat×Operand)}{as:O U.AV}(hx:y7 (AVR (cx Z π σ w)) as ((psr.toList.map (·.2)).map (ev ρ)))(hev:(c3r P fr t len (psr.toList.map (·.1)) as).Ev σ m0 m v ws):a48 P E σ ρ w ⟨d,.buildSlice t len psr,ty,ps,af,g⟩ v ws:=by
 unfold c3r at hev;split at hev;case h_2=>exact hev.elim
 rename_i e hu;split at hev;case h_2=>exact hev.elim
 rename_i c hc;split at hev;case h_2=>exact hev.elim
 rename_i hok;let⟨as',fz,m1,hev,_,hfz,_,hrep⟩:=c6x hU h hx hev;have hrep:=hrep fz hfz λq hq=>⟨hq,e64 hq⟩;split at hev;case h_2=>exact hev.elim
 rename_i l hpl hpr;let⟨hn,m2,hm1,hv0,hws⟩:=b28 hev;subst hv0;rw[hws];simp only[qB]at hok;let⟨⟨⟨⟨⟨⟨h1,h2⟩,h3⟩,h4⟩,h5⟩,h6⟩,h7⟩:=hok;have h2:=qC h2;have h5:=qW h5;have h6:=qW h6;let⟨e',he1,he2,he3,he4⟩:=b1m h4;have hus:=e3x hU hpr (b6t (b99 hpl) hrep);let⟨g1,g2,g3⟩:=d61 _ _ hus;have hsz:∀v∈(psr.toList.map (·.2)).map (ev ρ),v.cells.size=U.n c:=by intro v hv;obtain⟨i,hi,rfl⟩:=getElem_of_mem hv;let⟨xv,_,hxr⟩:=hus.get (qG hi);have:=(Rp c).len hxr;rw[Rp_n]at this;omega
 have hlen:((psr.toList.map (·.2)).map (ev ρ)).length=len:=by rw[<-h2];simp
 have hpe:(psr.map λ(i,x)=>(i,ev ρ x)).toList=(((psr.toList.map (·.2)).map (ev ρ)).zipIdx 0).map λx=>(x.2,x.1):=by
  rw[d3w,d6n _ 0 _ h1 (by omega)]
 let⟨css,hcss⟩:∃css,css=g3u _ _ hus:=⟨_,rfl⟩;rw[<-hcss]at g1 g2 g3;have hrun:∃cells:Array A5,cells.toList=css.flatMap Subtype.val/\(Instr.buildSlice t len (psr.map λ(i,x)=>(i,ev ρ x))).run P w=.ok (.slice (some ⟨w.heap.size,0,none⟩) len len) (w.alloc (.cells cells e)):=by
  let⟨ie,zv,hie,hz,hzs,hsz1,_,_⟩:=c1w h7;have hin:((Array.range (len*ie.size)).map (zv.cells[.%zv.cells.size]!)).size=len*ie.size:=by simp
  let⟨r,hr,hrs,hrk⟩:=Great.fill_dense he4 _ 0 ((Array.range (len*ie.size)).map (zv.cells[.%zv.cells.size]!)) hsz (by rw[hin,hlen,hsz1,Nat.zero_add];omega);refine⟨r,?_,?_⟩;case refine_2=>
   by_cases hpos:len*ie.size=0
   .have hl0:len=0:=by rcases Nat.mul_eq_zero.1 hpos with h0|h0;all_goals omega
    subst hl0;have hnil:=by have:=h2;rw[List.length_map]at this;exact List.length_eq_zero_iff.1 this
    have hps:psr=#[]:=by rw[<-Array.toList_eq_nil_iff];omega
    subst hps;have hr0:=by have:=hrs;rw[hin,Nat.zero_mul]at this;exact Array.eq_empty_of_size_eq_zero this
    subst hr0;simp[Instr.buildSlice,run_underlying hu,sizeOf,typeInfo,zeroValue,hie,hz,newRow,Instr.fill];rw[show∀f,Array.map f _=#[]fromλf=>Array.eq_empty_of_size_eq_zero (by simp)]
   .exact run_buildSlice w t e len _ r ie zv hu hie hz (by rw[hsz1];omega) hpos (by rw[hpe,hsz1];rw[hsz1]at hr;omega)
  apply ext_getElem?;intro k;rw[Array.getElem?_toList,hrk k,g1,d1d he4 _ _ hsz,hlen];simp only[Nat.zero_mul,Nat.zero_add,Nat.zero_le,true_and,Nat.sub_zero];split;.rfl
  .rw[Array.getElem?_eq_none (by rw[hin,hsz1];omega)];have:((psr.toList.map (·.2)).map (ev ρ))[k/U.n c]?=none:=by apply getElem?_eq_none;rw[hlen];exact(Nat.le_div_iff_mul_le he4).2 (by omega)
   rw[this];rfl
 let⟨cells,hc1,hc2⟩:=hrun;refine b1u (h.freeze hfz) (obj:=.cells cells e) (v':=.slice (some ⟨w.heap.size,0,none⟩) len len) (f2y hfz hn) (by simp[execOp,hc2]) (λh=>by cases h) rfl rfl (λb hb=>hb) ?_;rintro X' hle hw hZ;refine⟨css,?_,g2.mono λr xv hh=>c42 hle hh⟩;have hcl:cells=(css.flatMap Subtype.val).toArray:=by rw[<-hc1]
 have hM:Mb (w.alloc (.cells cells e)) w.heap.size e (css.flatMap Subtype.val):=by rw[hcl];exact Mb.alloc w e _
 rw[hw];exact hM.own (Nat.zero_le _) (by omega) (by unfold maxLen;omega) (λr=>r.2.1)
end
section
variable {P:Program} {U:Uni} {E:Env} {Z:Nat -> Prop} {π:Nat -> A5} {σ:U.St} {ρ:Nat -> A5} {w:World}
variable {d:A3 Tmp} {ty:TypeId} {ps:String} {af:Array Edge} {g:A3 (Nat×Bool)} {x y z:Operand} {m0 m:Nat} {a b v:U.AV} {ws:O (Nat×U.MC)} {fr:Nat}
def e5b(X:Cx){c:U.C}(u:A5)(l:O (U.T c)):Prop:=∃(css:O (Raw (U.n c))),(∃G,k9 (RAW (U.n c)) G X.w u css)/\y7 (λ(r:Raw (U.n c))x=>(Rp c).rep X.G X.w r.1 x) css l
def d2u{X:Cx}{c:U.C}{u:A5}{l:O (U.T c)}(h:k9 (Rp c) X.G X.w u l):e5b X u l:=by let⟨css,h1,h2⟩:=f2w h;exact⟨css,⟨_,h1⟩,h2⟩
def e72{X:Cx}{e:TypeId}{c:U.C}{u:A5}{l:O (U.T c)}(h:MR X (.sl e c l) u):e5b X u l:=by let⟨css,hO,hr⟩:=h;exact⟨css,⟨noG,hO.rep λ_ _ h=>h⟩,hr⟩
def f0a{w:World}{a:Addr}{v:A5}(h:w.cell? a=some v):a.block<w.heap.size:=by grind[World.cell?]
def e2d(hU:UOK U){G:Nat->Prop}{c:U.C}{x:U.T c}{cs:O A5}(h:e8 Rp G w (inj c x) cs):(Rp c).rep G w cs x:=by unfold inj at h;cases hag:U.ag c with|true=>rw[hag]at h;exact h|false=>rw[hag]at h;have hl:=hU.lay c x;rw[hU.sc c hag]at hl;cases hf:U.flds c x with|nil=>simp_all|cons a r=>cases r with|nil=>rw[hf]at h;have:=c96 hU (css:=[cs]) (by rw[hf];exact⟨h,trivial⟩);simp_all|cons b r=>simp_all
def f9y{G:Nat->Prop}{c:U.C}{a:Addr}:∀(l:O (U.T c))(k:Nat),(∀i x,l[i]?=some x->∃cs,(Rp c).rep G w cs x/\CA w (a.add ((k+i)*U.n c)) cs)->∃css:O (Raw (U.n c)),css.length=l.length/\y7 (λ(r:Raw (U.n c))x=>(Rp c).rep G w r.1 x) css l/\∀i r,css[i]?=some r->CA w (a.add ((k+i)*U.n c)) r.1
 |[],k,_=>⟨[],rfl,trivial,λi r h=>by grind⟩|y::l,k,hh=>by
   let⟨cs,h1,h4⟩:=hh 0 y rfl;obtain⟨css,g1,g2,g3⟩:=f9y l _ λi x hx=>by have:=hh (i+1) x (by simp_all);rwa[show k+(i+1)=k+1+i by omega]at this
   refine⟨d0s h1::css,by grind,⟨h1,g2⟩,λi r hr=>?_⟩;cases i with|zero=>simp at hr;subst hr;exact h4|succ i=>have:=g3 i r (by simpa using hr);rwa[show k+1+i=k+(i+1)by omega]at this
def g04(hU:UOK U)(h:Rel E Z π σ ρ w){c:U.C}{k:O (U.T c)->U.Q}{u:A5}(hx:AVR (cx Z π σ w) a u)(hev:(rdL c a k).Ev σ m0 m v ws):∃l m1,(k l).Ev σ m1 m v ws/\e5b (cx Z π σ w) u l:=by
 have key:∀{c':U.C}{l':O (U.T c')}{m1:Nat},(match b8i c l' with|some l=>k l|none=>(.fail)).Ev σ m1 m v ws->e5b (cx Z π σ w) u l'->∃l m1,(k l).Ev σ m1 m v ws/\e5b (cx Z π σ w) u l:=by
  intro c' l' m1 hev hr;split at hev;.rename_i l hl;let⟨he,hx⟩:=a3i (G:=noG) (w:=w) hl;grind
  .exact hev.elim
 unfold rdL at hev;split at hev;.exact key hev (d2u hx)
 .exact⟨[],_,hev,[],⟨noG,.inl ⟨hx,rfl⟩⟩,trivial⟩
 .rename_i id;have hm:=h.mem id;have hev:(match σ.mem id with|.sl _ _ l=>(match b8i c l with|some l=>k l|none=>.fail)|.fz _ l=>(match b8i c l with|some l=>k l|none=>.fail)|_=>(.fail)).Ev σ _ m v ws:=hev;split at hev;.rename_i e c' l' hmem;rw[hmem]at hm;exact key hev (by rw[hx.2.1];exact e72 hm)
  .rename_i c' l' hmem;rw[hmem]at hm;exact key hev (by rw[hx.2.1];exact d2u hm)
  .exact hev.elim
 .rename_i id c' p n;have hev:(match c18 c' _ p with|true=>g1o _ p _|false=>(.fail)).Ev σ _ m v ws:=hev;let⟨hus,ad,had,hok,hv⟩:=hx;split at hev;case h_2=>exact hev.elim
  rename_i hcm;let⟨b,hev,hloc0⟩:=e2m hU h (.inr hcm) hok hev;split at hev;case h_2=>exact hev.elim
  rename_i ca z;split at hev;case h_2=>exact hev.elim
  rename_i l hck hl;simp only[qB]at hck;let⟨he,hx2⟩:=a3i (G:=noG) (w:=w) hl;subst he;subst hx2;refine⟨_,_,hev,?_⟩;have hnl:(U.al ca z).length=n:=by rw[(hU.arr ca z hck.1.1.1).2];exact(qC hck.1.1.2).symm
  have hn6:=qW hck.1.2;have hpos:=qW hck.2;let⟨u,hA,hca⟩:=(hloc0 ad had);have hit:∀i(y:U.T _),(U.al ca z)[i]?=some y->∃cs,(Rp _).rep (cx Z π σ w).G w cs y/\CA w ((ad.add (d2l c' p)).add (i*U.n (U.ae ca))) cs:=by
   intro i y hy;have hg:c7 (U.al ca z) (i)=some y:=by unfold c7;rw[if_pos (by omega),Int.toNat_natCast];omega
   let⟨u2,h2,h3⟩:=d3n hU hck.1.1.1 hA hca hg;refine⟨u2.cells.toList,e2d hU (b4w (.inl (a1w hU _ _).1) h2),?_⟩;exact h3
  obtain⟨css,g1,g2,g3⟩:=f9y _ 0 λi y hy=>by let⟨cs,q1,q2⟩:=hit i y hy;exact⟨cs,q1,by rw[Nat.zero_add];omega⟩
  refine⟨css,⟨noG,.inr ⟨ad.add _,n,by rw[g1,hnl];omega,by omega,by unfold maxLen;omega,λi r hr=>?_⟩⟩,g2⟩;have hc:=g3 i r hr;rw[Nat.zero_add]at hc;exact⟨r.1,rfl,(by have hne:∃v,r.1[0]?=some v:=⟨r.1[0]'(by omega),qG _⟩;let⟨v0,hv0⟩:=hne;have:=f0a (hc 0 v0 hv0);rwa[a2h,a2h]at this),λh=>h,hc⟩
 .exact hev.elim
def d9z(hU:UOK U){X:Cx}{c:U.C}(h8:U.b8 c=true){u:A5}{l:O (U.T c)}(h:e5b X u l):∃G,k9 u8R G X.w u (l.map (U.t8 c)):=by
 let⟨css,⟨G,hR⟩,hr⟩:=h;have hlen:=hr.length;rcases hR with⟨hu,hn⟩|⟨a,cap,hv,hc,hm,hi⟩;.cases l with|nil=>exact⟨G,.inl ⟨hu,rfl⟩⟩|cons _ _=>simp_all
 .refine⟨G,.inr ⟨a,cap,by grind,by grind,hm,λi x hx=>?_⟩⟩;rw[getElem?_map]at hx;obtain⟨y,hy,rfl⟩:=Option.map_eq_some_iff.1 hx;have hil:i<css.length:=by grind
  have hri:=qG hil;let⟨y',hy',d,hd⟩:=hr.get hri;rw[hy]at hy';cases hy';let⟨cs,hcs,hb,hg,hca⟩:=hi i _ hri;cases d with|zero=>exact hd.elim|succ d=>
    let⟨_,ks,hk,ha⟩:=hd;have hf:=hU.by8 c y h8;rw[hf]at ha;match ks,ha with
    |[k],⟨hk1,_⟩=>
      subst hk1;refine⟨[.int .u8 _],rfl,hb,hg,?_⟩;have e:cs=[.int .u8 (U.t8 c y)]:=by rw[hcs,hk];rfl
      rw[e]at hca;have e2:(RAW (U.n c)).n=u8R.n:=(by have h1:=hU.lay c y;rw[hf]at h1;rw[hU.sum c,<-h1];rfl);rw[e2]at hca;omega|[],ha=>exact ha.elim|_::_::_,⟨_,ha⟩=>exact ha.elim
def f3o(hU:UOK U)(h:Rel E Z π σ ρ w){s t:TypeId}(hb:g38 P s t=true)(hx:AVR (cx Z π σ w) a (ev ρ x))(hev:(h2h P s a).Ev σ m0 m v ws):a48 P E σ ρ w ⟨d,.convert s t x,ty,ps,af,g⟩ v ws:=by
 unfold g38 at hb;split at hb;case h_2=>grind
 rename_i e' hs ht;unfold h2h at hev;split at hev;case h_2=>grind
 rename_i e hs';split at hev;case h_2=>exact hev.elim
 rename_i c he hcd;split at hev;case h_2=>exact hev.elim
 rename_i h8;obtain⟨l,m1,⟨hm,rfl,rfl⟩,hrd⟩:=g04 hU h hx hev;let⟨G,hR⟩:=d9z hU h8 hrd;exact g8 h (h2g rfl (λa n c w=>run_convert_bytes_string w s t e a n c hs' he ht) hR) rfl
def e5m(h:Rel E Z π σ ρ w){t:TypeId}(hx:AVR (cx Z π σ w) a (ev ρ x))(hev:(e9h P fr t a).Ev σ m0 m v ws):a48 P E σ ρ w ⟨d,.range t x,ty,ps,af,g⟩ v ws:=by
 unfold e9h at hev;split at hev;case h_3=>exact hev.elim
 case h_2 id=>
  split at hev;case h_2=>exact hev.elim
  rename_i hs;have hev:(match σ.mem id with|.mp []=>(.done .mi _:U.Q)|_=>.fail).Ev σ _ m v ws:=hev;split at hev;case h_2=>exact hev.elim
  rename_i hmem;obtain⟨_,rfl,rfl⟩:=hev;have hm:=h.mem id;rw[hmem]at hm;let⟨mb,hv,_,hb⟩:=hm;have hxv:ev ρ x=.map (some mb):=by rw[hx.2.1];exact hv
  unfold f9p at hs;split at hs;case h_2=>grind
  rename_i k e hu;have hMB:MB (σ.mem id) (π id) mb:=by rw[hmem,hv];rfl
  have hlt:=(h.own id mb hMB).2.1;have hr:(execOp (ev ρ) ⟨d,.range t x,ty,ps,af,g⟩).run P w=.ok (.value (.pointer (some ⟨w.heap.size,0,none⟩))) (w.alloc (.mapIter (some mb) 0 #[] 0)):=by
   have hb':w.heap[mb]?=some (.map #[] 0):=hb;have hg:(getObj mb).run P w=.ok (.map #[] 0) w:=by simp[getObj,Sem.run,hb']
   simp[execOp,hxv,Instr.range,run_underlying hu,hg,Result.andThen]
  unfold a48 a0k;rw[hr];have hid:∀{j:Nat}{m':U.MC},lk j [(id,(.dead))]=some m'->j=id/\m'=.dead:=by intro j m' hj;have hj:(bif Nat.beq id j then some _ else none)=some m':=hj;cases hbe:Nat.beq id j with|true=>simp_all|false=>simp_all
  refine⟨λb=>Z b\/b=w.heap.size\/b=mb,π,h.next ((Ext.alloc noG w _).mono λ_ hh=>hh.elim) (λb hb=>.inl hb) (λb hb=>?_) (λ_ _=>rfl) (λj m' hj=>by rw[(hid hj).2];intro e;cases e) (λj m' hj=>by rw[(hid hj).2];trivial) (λj m' b hj hb=>by rw[(hid hj).2]at hb;exact hb.elim) (λj j' m' m'' b _ hj _ hb=>by rw[(hid hj).2]at hb;exact hb.elim) ?_⟩
  .rcases hb with hb|rfl|rfl;.exact .inl hb
   .exact .inr (.inl ⟨Nat.le_refl _,by simp⟩)
   .exact .inr (.inr ⟨id,.dead,(by show(bif Nat.beq id id then some _ else _)=_;rw[show Nat.beq id id=true from Nat.beq_refl id];rfl),hMB⟩)
  .refine⟨w.heap.size,mb,0,0,rfl,⟨by simp[cx],λhn=>hn (.inr (.inl rfl))⟩,⟨by show mb<(w.alloc _).heap.size;simp;omega,λhn=>hn (.inr (.inr rfl))⟩,?_,?_⟩;.show(w.heap.push _)[w.heap.size]?=_;simp
   .show(w.heap.push _)[mb]?=_;rw[Array.getElem?_push_lt hlt];rw[<-hb];exact(Array.getElem?_eq_getElem hlt).symm
 rename_i s;split at hev;case h_2=>exact hev.elim
 rename_i hs;obtain⟨hn,m1,hm,rfl,rfl⟩:=b28 hev;unfold f5z at hs;split at hs;case h_2=>grind
 rename_i hu;have hx:ev ρ x=.string s:=hx;refine b1u h (obj:=.stringIter s 0) (v':=.pointer (some ⟨w.heap.size,0,none⟩)) hn ?_ (λh=>by grind) rfl rfl (λb hb=>hb) ?_;.simp[execOp,hx,e6q hu,Result.andThen]
 .intro X' _ hw _;exact⟨w.heap.size,rfl,Int.le_refl 0,by rw[hw];show(w.heap.push _)[w.heap.size]?=_;simp⟩
def e66(h:Rel E Z π σ ρ w)(hx:AVR (cx Z π σ w) a (ev ρ x))(hev:(f0b a:U.Q).Ev σ m0 m v ws):a48 P E σ ρ w ⟨d,.next x false,ty,ps,af,g⟩ v ws:=by
 unfold f0b at hev;split at hev;case h_2=>exact hev.elim
 obtain⟨_,rfl,rfl⟩:=hev;let⟨b,mb,s,c,hv,_,_,h5,h6⟩:=hx;have h5:w.heap[b]?=some _:=h5;have hg:(getObj b).run P w=.ok (.mapIter (some mb) s #[] c) w:=by simp[getObj,Sem.run,h5]
 have hm:(getObj mb).run P w=.ok (.map #[] 0) w:=by have h6:w.heap[mb]?=some (.map #[] 0):=h6;simp[getObj,Sem.run,h6]
 refine g8 h ?_ ⟨[.bool _],rfl,rfl,trivial⟩;show(execOp _ _).run P w=_;simp[execOp,hv,Instr.next,hg,hm,choose,Sem.run,Question.forced,Question.cut,Result.andThen]
def f2t(h:Rel E Z π σ ρ w)(hx:AVR (cx Z π σ w) a (ev ρ x))(hev:(g5i a:U.Q).Ev σ m0 m v ws):a48 P E σ ρ w ⟨d,.next x true,ty,ps,af,g⟩ v ws:=by
 unfold g5i at hev;split at hev;case h_2=>exact hev.elim
 rename_i id;have hev:(match σ.mem id with|.it s p=>(.cas _ _ _:U.Q)|_=>.fail).Ev σ _ m v ws:=hev;split at hev;case h_2=>exact hev.elim
 rename_i s p hmem;have hm:=h.mem id;rw[hmem]at hm;let⟨b,hv,h0,hb⟩:=hm;have hxv:ev ρ x=.pointer (some ⟨b,0,none⟩):=by rw[hx.2.1];exact hv
 have key:∀{c s':Int}{u:U.AV},f1z s p=some c->e6m s p=s'->(∀X',AVR X' u (nxV (decide (p<(s.size))) p c))->a48 P E σ ρ w ⟨d,.next x true,ty,ps,af,g⟩ u [(id,.it s s')]:=by
  intro c s' u hc hs' hu;let⟨w',hr,hE,hI⟩:=f2e (P:=P) (ty:=ty) ⟨h0,hb⟩ hc;have hr:(Instr.next _ _ ty).run P w=.ok _ w':=hr;have hrun:(execOp (ev ρ) ⟨d,.next x true,ty,ps,af,g⟩).run P w=.ok (.value (nxV (decide (p<(s.size))) p c)) w':=by simp[execOp,hxv,hr,Result.andThen]
  unfold a48 a0k;rw[hrun];refine⟨Z,π,h.set (λhh=>by simp_all) (λhh=>by cases hh) (hE.mono λy hy=>?_) (λX' _ hw=>?_) (λy hy=>?_) λX' _=>hu X'⟩;.rw[hmem,hv,hy];rfl
  .rw[hs']at hI;exact⟨b,hv,hI.1,by rw[hw];exact hI.2⟩
  .rw[hmem];exact hy
 rcases hev with⟨e,hm,rfl,rfl⟩|⟨r,e,hev⟩
 .unfold e6l at e;split at e;.cases e
  .rename_i hp;exact key (by unfold f1z;rw[if_neg hp]) (by unfold e6m;omega) λX'=>by rw[decide_eq_false hp];exact⟨[.bool _],rfl,rfl,trivial⟩
 .obtain⟨c,hc,hm,rfl,rfl⟩:=hev;unfold e6l at e;split at e;.rename_i hp;have e:=qH e;rw[hc]at e;exact key (by unfold f1z;rw[if_pos hp];omega) (by unfold e6m;omega) λX'=>by rw[decide_eq_true hp];exact⟨[.bool _,.int _ p,.int _ c],rfl,rfl,rfl,rfl,trivial⟩
  .cases e
def a87{α β:Type}{p:α->β->Prop}:∀{l l':O α}{r r':O β},y7 p l r->y7 p l' r'->y7 p (l++l') (r++r')|[],_,[],_,_,h=>h|_::_,_,_::_,_,h,h'=>⟨h.1,a87 h.2 h'⟩|[],_,_::_,_,hh,_=>hh.elim|_::_,_,[],_,hh,_=>hh.elim
def d8n(hU:UOK U)(h:Rel E Z π σ ρ w){t e:TypeId}{c:U.C}{dead:O Nat}{l:O (U.T c)}(hu:P.underlying t=some (.slice e))(hok:d81 P e (U.n c)=true)(hs:MR (cx Z π σ w) (.sl e c l) (ev ρ x))(hdead:∀b,(ev ρ x).ownBlock=some b->∃id∈dead,MB (σ.mem id) (π id) b)(hy:AVR (cx Z π σ w) b (ev ρ y))(hev:(h1q P fr e c (dead.map λid=>(id,.dead)) l b).Ev σ m0 m v ws):a48 P E σ ρ w ⟨d,.call ⟨.builtin .append,#[x,y],#[t,t]⟩,ty,ps,af,g⟩ v ws:=by
 let⟨xs,m1,hev,cx2,⟨G,hR⟩,hxr⟩:=g04 hU h hy hev;let⟨r,hr,hev⟩:=hev;let⟨hn,m2,hm1,hv0,hws⟩:=b28 hev;subst hv0;rw[hws];let⟨css,hO,hsr⟩:=hs;let⟨ie,zv,hie,hz,hzs,hsz1,hp1,hp2⟩:=c1w hok;let⟨hbytes,hrl⟩:=e8h hr;have hbt:d2w P e=ie.bytes:=by unfold d2w;rw[hie]
 let⟨v',w',hrun,hO',hE,hblk⟩:=d1y (ty:=ty) _ (λr=>r.2.2) hu (by rw[hie];simp[hz,hzs,hsz1]) hp1 hp2 hO ⟨G,hR⟩ (by rw[hsr.length,hxr.length,<-hbt];omega) (by omega);unfold a48 a0k;have hex:(execOp (ev ρ) ⟨d,.call ⟨.builtin .append,#[x,y],#[t,t]⟩,ty,ps,af,g⟩).run P w=.ok (.value v') w':=by have hrun2:(Builtin.append_ _ ty _).run P w=.ok v' w':=hrun;simp[execOp,resolve,invoke,builtin,hrun2]
 rw[hex];refine⟨Z,c0j π fr v',?_⟩;refine h.new hn (λh=>by cases h) (hE.mono hdead) ?_ (λq hq=>?_) ?_;.rintro X' hle hw hZ;refine⟨css++cx2,by rw[hw];omega,?_⟩;rw[<-hrl];exact a87 (hsr.mono λ_ _ hh=>c42 hle hh) (hxr.mono λ_ _ hh=>c42 hle hh)
 .let⟨ad,cap,hv,_⟩:=hO'.shape;have hq2:=(a95 hv).2 hq;refine⟨(hO'.lt hq2).2,?_⟩;rcases hblk q hq2 with h1|h1;.exact .inr (hdead q h1)
  .exact .inl h1
 .let⟨ad,cap,hv,_⟩:=hO'.shape;rw[hv];rfl
def f6j(hU:UOK U)(h:Rel E Z π σ ρ w){t:TypeId}(hx:AVR (cx Z π σ w) a (ev ρ x))(hy:AVR (cx Z π σ w) b (ev ρ y))(hev:(h35 P fr t a b).Ev σ m0 m v ws):a48 P E σ ρ w ⟨d,.call ⟨.builtin .append,#[x,y],#[t,t]⟩,ty,ps,af,g⟩ v ws:=by
 unfold h35 at hev;split at hev;case h_2=>exact hev.elim
 rename_i e hu;split at hev;case h_2=>exact hev.elim
 rename_i c hc;split at hev;case h_2=>exact hev.elim
 rename_i hok;split at hev
 .refine d8n (dead:=[]) (l:=[]) hU h hu hok ⟨[],?_,trivial⟩ (λb hb=>?_) hy hev;.rw[show ev ρ x=.slice _ 0 0from hx];simp_all[Own.nil]
  .rw[show ev ρ x=.slice _ 0 0from hx]at hb;cases hb
 .rename_i id;split at hev;.exact hev.elim
  .have hm:=h.mem id;have hev:(match σ.mem id with|.sl e' c' l=>(match Nat.beq e e'&&eqC c' c,b8i c l with|true,some l=>h1q P fr e c _ l b|_,_=>(.fail))|_=>(.fail)).Ev σ _ m v ws:=hev;split at hev
   .rename_i e' c' l' hmem;split at hev;.rename_i l hbe hl;simp only[qB]at hbe;have h1:=qC hbe.1;let⟨he,hx2⟩:=a3i (G:=noG) (w:=w) hl;subst he;subst hx2;subst h1;rw[hmem]at hm;refine d8n (dead:=[id]) hU h hu hok (by rw[hx.2.1];exact hm) (λb hb=>⟨id,by simp,?_⟩) hy hev;rw[hx.2.1]at hb;rw[hmem];let⟨css,hO,_⟩:=hm;let⟨ad,cap,hv,_⟩:=hO.shape;exact(a95 hv).1 hb
    .exact hev.elim
   .exact hev.elim
 .exact hev.elim
def b1t(h:Rel E Z π σ ρ w){o:A3 Operand}{d:Int}{k:Int->U.Q}(hev:(bnd o d k).Ev σ m0 m v ws):∃n m1,(k n).Ev σ m1 m v ws/\((o.map (ev ρ)=none/\n=d)\/o.map (ev ρ)=some (.int .i64 n)):=by
 unfold bnd at hev;split at hev;.grind
 .rename_i op;let⟨a,m1,ha,hev⟩:=u6 h hev;cases a<;>try exact hev.elim
  rename_i k n;cases k<;>try exact hev.elim
  have ha:ev ρ op=.int _ n:=ha;exact⟨n,m1,hev,.inr (by grind)⟩
def d4e(h:Rel E Z π σ ρ w){t:TypeId}{c:U.C}{l r:O (U.T c)}{lo hi:A3 Operand}{i j:Int}(hx:k9 (Rp c) (cx Z π σ w).G w (ev ρ x) l)(he:b2o P t c=true)(hlo:(lo.map (ev ρ)=none/\i=0)\/lo.map (ev ρ)=some (.int .i64 i))(hhi:(hi.map (ev ρ)=none/\j=(l.length:Int))\/hi.map (ev ρ)=some (.int .i64 j))(hs:a1x l i j=some r):a48 P E σ ρ w ⟨d,.slice t x lo hi none,ty,ps,af,g⟩ (.list c r) []:=by let⟨e,he1,he2,_,_⟩:=b1m he;let⟨u,hrun,hrep⟩:=g60 he1 (a9m he2) hx hs hlo hhi;exact g8 h (by simp[YV,execOp,hrun]) hrep
def f2b{s r:A4}{a b:Int}(h:c3u s a b=some r):0<=a/\a<=b/\b<=(s.size:Int)/\r=s.extract a.toNat b.toNat:=by grind[c3u]
def e4z{t:TypeId}{s r:A4}{lo hi:A3 A5}{i j:Int}(ht:P.underlying t=some .string)(hlo:(lo=none/\i=0)\/lo=some (.int .i64 i))(hhi:(hi=none/\j=(s.size:Int))\/hi=some (.int .i64 j))(hs:c3u s i j=some r):(Instr.sliceAt t (.string s) lo hi none).run P w=.ok (.string r) w:=by
 obtain⟨h0,h1,h2,rfl⟩:=f2b hs;have hj:(0<=j/\j<=(s.size)):=by omega
 have hij:(0<=i/\i<=(j.toNat)):=by omega
 rcases hlo with⟨rfl,rfl⟩|rfl<;>rcases hhi with⟨rfl,hl⟩|rfl
 .have e1:=by omega
  simp[Instr.sliceAt,Instr.slice,run_underlying ht,Instr.sliceBounds,e1]
 .simp[Instr.sliceAt,Instr.slice,run_underlying ht,Instr.sliceBounds,Instr.sliceBound,asIntOf,hj]
 .have e1:j.toNat=s.size:=by omega
  rw[e1]at hij;simp[Instr.sliceAt,Instr.slice,run_underlying ht,Instr.sliceBounds,Instr.sliceBound,asIntOf,hij,e1]
 .simp[Instr.sliceAt,Instr.slice,run_underlying ht,Instr.sliceBounds,Instr.sliceBound,asIntOf,hj,hij];omega
def e57(hU:UOK U)(h:Rel E Z π σ ρ w){t:TypeId}{lo hi:A3 Operand}(hx:AVR (cx Z π σ w) a (ev ρ x))(hev:(f0n P t a lo hi).Ev σ m0 m v ws):a48 P E σ ρ w ⟨d,.slice t x lo hi none,ty,ps,af,g⟩ v ws:=by
 unfold f0n at hev;split at hev
 .rename_i s;split at hev;.rename_i ht;let⟨i,m1,hev,hlo⟩:=b1t h hev;let⟨j,m2,hev,hhi⟩:=b1t h hev;obtain⟨r,hr,hm1,rfl,rfl⟩:=hev;have hx:ev ρ x=.string s:=hx;exact g8 h (by simp[YV,execOp,hx,(e4z ht hlo hhi hr)]) rfl
  .exact hev.elim
 .split at hev;.rename_i he;let⟨i,m1,hev,hlo⟩:=b1t h hev;let⟨j,m2,hev,hhi⟩:=b1t h hev;obtain⟨r,hr,hm1,rfl,rfl⟩:=hev;exact d4e h hx he hlo hhi hr
  .exact hev.elim
 .rename_i id;have hm:=h.mem id;simp [Q.Ev]at hev;split at hev
  .rename_i e0 c l hmem;split at hev
   .rename_i he;let⟨i,m1,hev,hlo⟩:=b1t h hev;let⟨j,m2,hev,hhi⟩:=b1t h hev;obtain⟨r,hr,hm1,rfl,rfl⟩:=hev;have hfz:FZ σ [(id,.fz c l)]:=by intro id' m' hh;simp_all
    have h1:=h.freeze hfz;refine d4e h1 ?_ he hlo hhi hr;have hm1:=h1.mem id;rw[o8,b6v]at hm1;rw[hx.2.1];exact hm1
   .exact hev.elim
  .rename_i c l hmem;split at hev;.rename_i he;let⟨i,m1,hev,hlo⟩:=b1t h hev;let⟨j,m2,hev,hhi⟩:=b1t h hev;obtain⟨r,hr,hm1,rfl,rfl⟩:=hev;rw[hmem]at hm;exact d4e h (by rw[hx.2.1];exact hm) he hlo hhi hr
   .exact hev.elim
  .exact hev.elim
 .rename_i id c p;unfold arrQ at hev;split at hev;case h_2=>exact hev.elim
  split at hev;case h_2=>exact hev.elim
  split at hev;case h_2=>exact hev.elim
  rename_i hok;obtain⟨_,rfl,rfl⟩:=hev;let⟨hA,m,e,he1,hmn,he2⟩:=c26 hok;let⟨hu,ad,had,hokp,hv⟩:=hx;refine g8 h (v:=.slice (some (ad.add (d2l c p))) m m) ?_ ⟨hu,ad,had,hokp,by grind⟩;have e0:∀a:Addr,a.add 0=a:=λa=>by simp[Addr.add]
  simp[YV,execOp,hv,Instr.sliceAt,run_underlying he1,Instr.sureAddr,Instr.sliceBounds,b45 he2,e0]
 .rename_i ca z;split at hev;case h_2=>exact hev.elim
  split at hev;case h_2=>exact hev.elim
  rename_i hok;simp only[qB]at hok;obtain⟨_,rfl,rfl⟩:=hev;let⟨hA,m,e,he1,hmn,he2⟩:=c26 hok.1;let⟨ad,cs,hv,hb,hg,hca,hr⟩:=hx;have hlen:(U.al ca z).length=m:=by rw[hmn];exact(hU.arr ca z hA).2
  refine g8 h (v:=.slice (some ad) m m) ?_ (.inr ⟨ad,m,by grind,by omega,?_,λi y hy=>?_⟩)
  .have e0:∀a:Addr,a.add 0=a:=λa=>by simp[Addr.add]
   simp[YV,execOp,hv,Instr.sliceAt,run_underlying he1,Instr.sureAddr,Instr.sliceBounds,b45 he2,e0]
  .rw[hmn];exact Nat.le_trans (qW hok.2) (by decide)
  .let⟨u,hu,hr⟩:=a18 hr;let⟨u1,hu1,hc1⟩:=d3n hU hA hr (ad:=ad) (n:=i) (y:=y) (by simp_all) (by unfold c7;simp_all);exact⟨_,e2d hU (b4w (.inl (a1w hU _ y).1) hu1),hb,hg,hc1⟩
 .exact hev.elim
end
section
variable {P:Program} {U:Uni}
def cz(Z:Nat->Prop)(w:World):Cx:=⟨Z,λ_=>undef,λ_=>False,w⟩
def b0h{X X':Cx}{a:U.AV}{u:A5}(hk:c06 a=true)(h:a1p X a u)(hw:X'.w=X.w)(hz:∀b,X.Z b->X'.Z b):a1p X' a u:=by cases a<;>first|(cases hk;done)|exact h|(let⟨cs,hu,hr⟩:=h;refine⟨cs,hu,?_⟩;rw[hw];exact(Rp _).weaken hr λb _ hb hz'=>hb (hz b hz'))|(show k9 _ _ _ u _;rw[hw];exact k9.weaken h λb _ hb hz'=>hb (hz b hz'))|(let⟨ad,cs,hu,hb,hg,hca,hr⟩:=h;refine⟨ad,cs,hu,?_⟩;rw[hw];exact⟨hb,λhn=>hg λhz'=>hn (hz _ hz'),hca,hr.weaken λb _ hb hz'=>hb (hz b hz')⟩)
def c3i(hU:UOK U){X:Cx}{c:U.C}{a:U.AV}{x:U.T c}(h:prj c a=some x){u:A5}(hr:a1p X a u):a1p X (inj c x) u:=by unfold prj at h;unfold inj;cases ha:U.ag c with
 |true=>
   rw[ha]at h;have key:∀{c':U.C}{x':U.T c'},cst c x'=some x->a1p X (.val c' x') u->a1p X (.val c x) u:=by
    intro c' x' h hr;unfold cst at h;split at h;.grind
    simp_all
   cases a<;>try(cases h)
   case val c' x'=>grind
   case st c' as=>
    dsimp only at h;split at h;.rename_i x' hk;let⟨css,hu,_,_,hh⟩:=hr;exact key h ⟨css.flatten,hu,e03 hU hk hh⟩
    simp_all|false=>rw[ha]at h;have hk:=hU.mkl c [a] x h;cases hl:U.flds c x with|nil=>rw[hl]at hk;exact hk.elim|cons b r=>rw[hl]at hk;cases r with|nil=>exact e36 hk.1 hr|cons _ _=>exact hk.2.elim
def e82:∀(m:O (Nat×Nat))(l l':O U.AV)(j:Nat),((∃id,(j,id)∈m/\(j<l.length->(b8h m l)[j]?=some (.ref id))))\/((b8h m l)[j]?=l[j]?/\(d0v m l')[j]?=l'[j]?)
 |[],l,l',j=>.inr ⟨rfl,rfl⟩|q::m,l,l',j=>by
   have hlen:∀(m:O _)(l:O U.AV),(b8h m l).length=l.length:=by intro m l;induction m with|nil=>rfl|cons q m ih=>simp[b8h,ih]
   by_cases hq:q.1=j;.left;subst hq;exact⟨q.2,qI,λhj=>by simp[b8h,hlen,hj]⟩
   .rcases e82 m l l' j with⟨id,h1,h2⟩|⟨h1,h2⟩;.left;refine⟨id,qJ _ h1,λhj=>?_⟩;simp [b8h];simp_all
    .simp [b8h,d0v];simp_all
def b6d:∀(m:O (Nat×Nat))(l:O U.AV),(b8h m l).length=l.length|[],_=>rfl|q::m,l=>by simp[b8h,b6d m l]
def d6b:∀(m:O (Nat×Nat))(l:O U.AV),(d0v m l).length=l.length|[],_=>rfl|q::m,l=>by simp[d0v,d6b m l]
def c1y{fs:O U.AV}{f i:Nat}(h:c71 fs f=some i):fs[f]?=some (.ref i):=by grind[c71]
def d37(hU:UOK U){X X':Cx}{c:U.C}{fs:O U.AV}{m:O (Nat×Nat)}{x:U.T c}{css:O (O A5)}(hlay:fs.map a07=U.lay c)(hpp:fs.all a03=true)(hr:y7 (λa s=>∃u:A5,u.cells.toList=s/\b79 X a u) fs css)(hk:U.mkv c (d0v m fs)=some x)(hw:X'.w=X.w)(hz:∀b,X.Z b->X'.Z b)(href:∀j id,(j,id)∈m->∃i,fs[j]?=some (.ref i)/\X'.us id/\X'.π id=X.π i):(b8h m (U.flds c x)).map a07=U.lay c/\(b8h m (U.flds c x)).all a03=true/\y7 (λa s=>∃u:A5,u.cells.toList=s/\b79 X' a u) (b8h m (U.flds c x)) css:=by
 have hA:=hU.mkl c _ x hk;have hL:=hU.lay c x;have hlen:(U.flds c x).length=fs.length:=by have h1:=y7.length hA;rw[d6b]at h1;omega
 have hat:∀(j:Nat)(a:U.AV),(b8h m (U.flds c x))[j]?=some a->a03 a=true/\(U.lay c)[j]?=some (a07 a)/\∀s u,fs[j]?≠none->css[j]?=some s->(∀a0,fs[j]?=some a0->b79 X a0 u)->b79 X' a u:=by
  intro j a ha;have hj:=by have:=(qD.1 ha).1;rwa[b6d]at this
  rcases e82 m _ fs j with⟨id,h1,h2⟩|⟨h1,h2⟩
  .rw[h2 hj]at ha;cases ha;let⟨i,hi,hus,hπ⟩:=href j id h1;refine⟨rfl,?_,λs u _ _ hu=>?_⟩;.rw[<-hlay,getElem?_map,hi];rfl
   .let⟨g1,g2,g3⟩:=hu _ hi;exact⟨hus,by grind,g3⟩
  .rw[h1]at ha;have hka:=qX.1 (hU.kind c x) a (qE ha);have hpa:a03 a=true:=by cases a<;>first|rfl|cases hka
   refine⟨hpa,?_,λs u hfj _ hu=>?_⟩;.rw[<-hL,getElem?_map,ha];rfl
   .cases hf:fs[j]?with|none=>grind|some a0=>have h0:=hu a0 hf;rw[hf]at h2;let⟨b,hb,hab⟩:=hA.get h2;rw[ha]at hb;cases hb;exact a1p.to0 hpa (b0h hka (e36 hab (.of0 h0)) hw hz)
 refine⟨?_,?_,?_⟩;.apply ext_getElem?;intro j;rw[getElem?_map];cases ha:(b8h m _)[j]?with|some a=>rw[(hat j a ha).2.1];rfl|none=>have:=List.getElem?_eq_none_iff.1 ha;rw[b6d]at this;rw[<-hL,getElem?_map,getElem?_eq_none this]
 .rw[qX];intro a ha;let⟨j,hj⟩:=getElem?_of_mem ha;exact(hat j a hj).1
 .refine y7.of_get (by rw[b6d,hlen];exact hr.length) λj a s ha hs=>?_;have hfj:=qG (by rw[hr.length];exact(qD.1 hs).1);let⟨s',hs',u,hu,hru⟩:=hr.get hfj;rw[hs]at hs';cases hs';exact⟨u,hu,(hat j a ha).2.2 s u (by rw[hfj];intro h;cases h) hs λa0 h0=>by rw[hfj]at h0;rw[<-qH h0];omega⟩
def f1r{G G':Nat->Prop}{w w':World}(hU:UOK U):∀(k:Nat)(c:U.C)(cs:O A5)(x:U.T c),U.flat c=true->(Rd k c).rep G w cs x->(Rd k c).rep G' w' cs x|0,_,_,_,_,h=>False.elim h|k+1,c,cs,x,hf,⟨hl,css,hc,h⟩=>by refine⟨hl,css,hc,?_⟩;have hfl:=hU.flat c x hf;clear hl hc;generalize U.flds c x=fs at h hfl;induction fs generalizing css with
   |nil=>cases css with|nil=>trivial|cons _ _=>exact h.elim
   |cons a fs ih=>cases css with|nil=>exact h.elim|cons s css=>simp only[all_cons,qB]at hfl;refine⟨?_,ih css h.2 hfl.2⟩;have h1:=h.1;cases a<;>simp [e8]at h1⊢<;>first|omega|(cases hfl.1)|exact f1r hU k _ _ _ hfl.1 h1
def d4n(hU:UOK U){G G':Nat->Prop}{w w':World}{c:U.C}(hf:U.flat c=true){cs:O A5}{x:U.T c}(h:(Rp c).rep G w cs x):(Rp c).rep G' w' cs x:=by let⟨k,h⟩:=h;exact⟨k,f1r hU k c cs x hf h⟩
def AR(σ:U.St)(π:Nat->A5)(X:Cx)(all:O A5):(p:PK U.C)->A5->p.T U->O Nat->Prop|.v c,u,x,i=>i=[]/\a1p X (inj c x) u|.ls c,u,l,i=>i=[]/\k9 (Rp c) X.G X.w u l|.rp _ c,u,x,i=>i=[]/\a1p X (.rp (inj c x)) u|.ow e c,u,l,i=>(i=[]/\u=.slice none 0 0/\l=[])\/∃id,i=[id]/\u=π id/\σ.mem id=.sl e c l|.io t c,u,x,i=>∃id b,i=[id]/\u=π id/\σ.mem id=.box t b/\MR X (.box t (inj c x)) u|.im t c m,u,x,i=>∃id fs,i=[id]/\u=π id/\σ.mem id=.box t (.st c fs)/\U.mkv c (d0v m fs)=some x/\∀f k,(f,k)∈m->∃j,fs[f]?=some (.ref j)/\all[k]?=some (π j)|.po _ _ e c,u,l,i=>∃id,i=[id]/\u=π id/\σ.mem id=.sl e c l|.so e c,u,l,i=>∃id,i=[id]/\u=π id/\σ.mem id=.sl e c l|.cl f cs,u,x,i=>i=[]/\∃vs:O A5,u=.func (.func f) #[] vs.toArray/\y7 (a1p X) (f3e cs x) vs|.bn f c,u,x,i=>i=[]/\AVR X (.bnd f (inj c x)) u|.km g t,u,x,i=>i=[]/\AVR X (.km g t x:U.AV) u|.vl g t c,u,x,i=>i=[]/\AVR X (.vl g t c x) u
def ARs(σ:U.St)(π:Nat->A5)(X:Cx)(all:O A5):(ps:O (PK U.C))->O A5->Args U ps->O (O Nat)->Prop|[],[],_,[]=>True|p::ps,u::us,(x,xs),i::is=>AR σ π X all p u x i/\ARs σ π X all ps us xs is|_,_,_,_=>False
def RR(X:Cx):(r:RK U.C)->r.T U->A5->Prop|.v c,x,u=>a1p X (inj c x) u|.ls c,x,u=>k9 (Rp c) X.G X.w u x|.ow e c,x,u=>MR X (.sl e c x) u|.bo _ _,none,u=>u=.pointer none|.bo t c,some x,u=>MR X (.box t (inj c x)) u
def RRs(X:Cx):(rs:O (RK U.C))->Ress U rs->O A5->Prop|[],_,[]=>True|r::rs,(x,xs),u::us=>RR X r x u/\RRs X rs xs us|_,_,_=>False
def OR(X:Cx):(ps:O (PK U.C))->Outs U ps->O A5->Prop|[],_,[]=>True|.io t c::ps,(x,xs),u::us=>MR X (.box t (inj c x)) u/\OR X ps xs us|.im t c m::ps,(x,xs),u::us=>MR X (.box t (.st c (b8h m (U.flds c x)))) u/\OR X ps xs us|.po _ _ e c::ps,(x,xs),u::us=>MR X (.sl e c x) u/\OR X ps xs us|.so e c::ps,(x,xs),u::us=>MR X (.sl e c x) u/\OR X ps xs us|.v _::ps,xs,_::us=>OR X ps xs us|.ls _::ps,xs,_::us=>OR X ps xs us|.ow _ _::ps,xs,_::us=>OR X ps xs us|.rp _ _::ps,xs,_::us=>OR X ps xs us|.cl _ _::ps,xs,_::us=>OR X ps xs us|.bn _ _::ps,xs,_::us=>OR X ps xs us|.km _ _::ps,xs,_::us=>OR X ps xs us|.vl _ _ _::ps,xs,_::us=>OR X ps xs us|_,_,_=>False
def c59:O (RK U.C)->O A5->O A5|.ow _ _::rs,u::us=>u::c59 rs us|.bo _ _::rs,u::us=>u::c59 rs us|_::rs,_::us=>c59 rs us|_,_=>[]
def ioB:O (PK U.C)->O A5->O A5|.io _ _::ps,u::us=>u::ioB ps us|.im _ _ _::ps,u::us=>u::ioB ps us|.po _ _ _ _::ps,u::us=>u::ioB ps us|.so _ _::ps,u::us=>u::ioB ps us|_::ps,_::us=>ioB ps us|_,_=>[]
def g6p:O A5->A5|[u]=>u|us=>.tuple us.toArray
def c7a(us:O A5):Nat->A5:=λt=>us.getD t undef
def czO(Z:Nat->Prop)(ps:O (PK U.C))(us:O A5)(w:World):Cx:=⟨Z,c7a us,λk=>∃p,ps[k]?=some p/\d4j p=true,w⟩
structure Post(s:Sig U)(Z G:Nat->Prop)(w:World)(args:O A5)(r:Ress U s.rs×Outs U s.ps)(u:A5)(w':World):Prop where ex:∃(Z':Nat->Prop)(us args':O A5),u=g6p us/\(∀b,Z b->Z' b)/\(∀b,Z' b->Z b\/G b\/(w.heap.size<=b/\b<w'.heap.size))/\Ext G w w'/\args'.length=args.length/\(∀(i:Nat)(p:PK U.C),s.ps[i]?=some p->d4j p=false->args'[i]?=args[i]?)/\RRs (cz Z' w') s.rs r.1 us/\OR (czO Z' s.ps args' w') s.ps r.2 args'/\(∀v∈c59 s.rs us++ioB s.ps args',∀b,hdV v=some b->¬Z' b/\b<w'.heap.size/\(G b\/w.heap.size<=b))/\(∀(i j:Nat)(v v':A5)(b:Nat),i≠j->(c59 s.rs us++ioB s.ps args')[i]?=some v->(c59 s.rs us++ioB s.ps args')[j]?=some v'->hdV v=some b->hdV v'≠some b)
def c0f(ps:O (PK U.C))(i:Nat):Prop:=(∃t c,ps[i]?=some (.io t c))\/(∃t c m,ps[i]?=some (.im t c m))\/∃e c,ps[i]?=some (.so e c)
def Spec(P:Program)(f:FuncId)(fe:Fent U):Prop:=∀(xs:Args U fe.s.ps)(b:fe.B),fe.F xs=some b->∀(Z G:Nat->Prop)(w:World)(us:O A5),us.length=fe.s.ps.length->Rel ⟨w,G,Z,c0f fe.s.ps,c7a us⟩ Z (c7a us) (a02 0 fe.s.ps xs) (c7a (us.take (npK fe.s.ps))) w->Calls P f (us.take (npK fe.s.ps)).toArray w λe w'=>∃u,e=.returned u/\Post fe.s Z G w us (fe.wr b) u w'
def b44(P:Program)(f:FuncId):Prop:=∀(args:Array A5)(w:World),(callFunc f args).run P w=.ok (.enter f args) w
def d6d(P:Program)(f:FuncId)(fe:Fent U):Prop:=∀(xs:Args U fe.s.ps)(b:fe.B),fe.F xs=some b->∀(Z G:Nat->Prop)(w:World)(us:O A5),us.length=fe.s.ps.length->Rel ⟨w,G,Z,c0f fe.s.ps,c7a us⟩ Z (c7a us) (a02 0 fe.s.ps xs) (c7a (us.take (npK fe.s.ps))) w->∃u w',(callFunc f (us.take (npK fe.s.ps)).toArray).run P w=.ok (.value u) w'/\Post fe.s Z G w us (fe.wr b) u w'
def b9c(P:Program)(f g:FuncId)(t:TypeId):Prop:=b44 P f/\∀(u:A5),u.cells.toList=[u]->∀w:World,Calls P f #[u] w λe w'=>e=.returned (.func (.func g) #[] #[.pointer (some ⟨w.heap.size,0,none⟩)])/\w'=w.alloc (.cells #[u] t)
def d6v(P:Program)(f:FuncId)(q:Nat->O U.AV->U.Q):Prop:=b44 P f/\∀(E:Env)(Z:Nat->Prop)(π:Nat->A5)(σ:U.St)(ρ:Nat->A5)(w:World)(fr:Nat)(as:O U.AV)(us:O A5)(m0 m:Nat)(v:U.AV)(ws:O (Nat×U.MC)),Rel E Z π σ ρ w->y7 (AVR (cx Z π σ w)) as us->(q fr as).Ev σ m0 m v ws->Calls P f us.toArray w λe w'=>∃u,e=.returned u/\∀d:A3 Tmp,∃Z' π',Rel E Z' π' (σ.app d v ws) (b20 ρ d u) w'
def c9b(P:Program)(f:FuncId)(fe:Fent U):Prop:=match fe.kc with|some (.seq g t _)=>b9c P f g t|some (.qy q)=>d6v P f q|none=>(Spec P f fe/\b44 P f)\/d6d P f fe
section
variable {E:Env} {Z:Nat -> Prop} {π:Nat -> A5} {σ:U.St} {ρ:Nat -> A5} {w:World}
variable {m0 m:Nat} {a b v:U.AV} {ws:O (Nat×U.MC)} {fr:Nat}
def b50(σ:U.St)(π:Nat->A5)(fz:O (Nat×U.MC))(b:Nat):Prop:=∃q∈fz,MB (σ.mem q.1) (π q.1) b
def g00(hU:UOK U)(h:Rel E Z π σ ρ w){t:TypeId}{c:U.C}{b:U.AV}{q:A5}{k:U.T c->O (Nat×U.MC)->U.Q}(hm:MR (cx Z π σ w) (.box t b) q)(hev:(h1o c b k).Ev σ m0 m v ws):∃x fz m1,(k x fz).Ev σ m1 m v ws/\FZ σ fz/\∃(blk:Nat)(u1:A5),q=.pointer (some ⟨blk,0,none⟩)/\Mb w blk t u1.cells.toList/\∀Z',(∀b,Z b->Z' b)->(∀b,b50 σ π fz b->Z' b)->e8 Rp (cz Z' w).G w (inj c x) u1.cells.toList:=by
 let⟨blk,u1,hv,hM,ha⟩:=hm;have fin:∀{x:U.T c}{fz:O _}{Z1:Nat->Prop},(∀b,Z1 b->Z b\/b50 σ π fz b)->(Rp c).rep _ w u1.cells.toList x->∀Z',(∀b,Z b->Z' b)->(∀b,b50 σ π fz b->Z' b)->e8 Rp (cz Z' w).G w _ _:=λh1 hx Z' hz hb=>(b6w hU hx).weaken λb _ hg h2=>hg ((h1 b h2).elim (hz b) (hb b));unfold h1o at hev;split at hev
 .rename_i c' fs;let⟨css,hu,hlay,hp,hr⟩:=ha;let⟨as',fz,m1,hev,hf,hA⟩:=g7k (c:=c') hU h hp hr hev;split at hev;case h_2=>exact hev.elim
  rename_i x0 hk;split at hev;case h_2=>exact hev.elim
  rename_i x hc;unfold cst at hc;split at hc;case h_2=>cases hc
  rename_i he _;subst he;cases hc;refine⟨_,fz,m1,hev,hf,blk,u1,hv,hM,fin (λb hb=>?_) (by rw[hu];exact (hA x0 hk))⟩;rcases hb with hb|⟨id,m,hl,hb⟩;.exact .inl hb
  .exact .inr ⟨(id,m),b1x hl,hb⟩
 .cases hp:prj c b with|none=>rw[hp]at hev;exact hev.elim|some x=>rw[hp]at hev;exact⟨x,[],m0,hev,(λ_ _ hh=>by cases hh),blk,u1,hv,hM,fin (λb hb=>.inl hb) (b85 hU hp ha)⟩
def g9o(hU:UOK U)(h:Rel E Z π σ ρ w){nf:Bool}{c:U.C}{u:A5}{k:U.T c->O (Nat×U.MC)->U.Q}(hx:AVR (cx Z π σ w) a u)(hev:(rpQ nf c a k).Ev σ m0 m v ws):∃x fz m1,(k x fz).Ev σ m1 m v ws/\(nf=true->FZ σ fz)/\(∀q∈fz,σ.mem q.1≠.never)/\∀Z',(∀b,Z b->Z' b)->(∀b,b50 σ π fz b->Z' b)->a1p (cz Z' w) (.rp (inj c x)) u:=by
 unfold rpQ at hev;split at hev
 .split at hev;.rename_i x hp;refine⟨x,[],_,hev,λ_=>(λ_ _ hh=>by grind),(by grind),λZ' hz _=>?_⟩;let⟨ad,cs,hv,hb,hg,hca,hr⟩:=hx;refine⟨ad,cs,hv,hb,λhn=>hg λhz'=>hn (hz _ hz'),hca,?_⟩;let⟨u1,hu1,hr1⟩:=a18 hr;have h1:=b85 hU hp hr1;rw[hu1]at h1;exact(b6w hU h1).weaken λb _ hb hz'=>hb (hz b hz')
  .exact hev.elim
 .rename_i id;split at hev;.exact hev.elim
  .simp [Q.Ev]at hev;have hm:=h.mem id;split at hev
   .rename_i t' b0 hmem;rw[hmem]at hm;let⟨x,fz,m1,hev,hf,blk,u1,hv,hM,hr⟩:=g00 hU h hm hev;refine⟨x,_,_,hev,(λhnf=>by grind),(λq hh=>?_),λZ' hz hb=>⟨⟨blk,0,none⟩,u1.cells.toList,by rw[hx.2.1];exact hv,hM.lt,λhn=>hn (hb blk ⟨_,qI,?_⟩),hM.ca,hr Z' hz λb⟨q,hq,hb'⟩=>hb b ⟨q,qJ _ hq,hb'⟩⟩⟩
    .rcases qO.1 hh with rfl|hh;.simp_all
     .let⟨e,c1,l1,h1,_⟩:=hf q.1 q.2 hh;simp_all
    .rw[hmem,hv];rfl
   .exact hev.elim
 .exact hev.elim
def f9s(hU:UOK U)(h:Rel E Z π σ ρ w){nf:Bool}:∀{cs:O U.C}{as:O U.AV}{vs:O A5}{k:CapT U cs->O (Nat×U.MC)->U.Q}{m0 m:Nat}{v:U.AV}{ws:O (Nat×U.MC)},y7 (a1p (cx Z π σ w)) as vs->(h3f nf cs as k).Ev σ m0 m v ws->∃x fz m1,(k x fz).Ev σ m1 m v ws/\(nf=true->FZ σ fz)/\(∀q∈fz,σ.mem q.1≠.never)/\∀Z',(∀b,Z b->Z' b)->(∀b,b50 σ π fz b->Z' b)->y7 (a1p (cz Z' w)) (f3e cs x) vs
 |[],[],[],k,m0,m,v,ws,_,hev=>⟨(),[],m0,hev,λ_=>(λ_ _ hh=>by grind),(λ_ hh=>by grind),λ_ _ _=>trivial⟩|c::cs,a::as,u::us,k,m0,m,v,ws,hx,hev=>by
   let⟨x,fz,m1,hev,h1,h2,h4⟩:=g9o hU h (AVR.of1 hx.1) hev;let⟨xs,fzs,m2,hev,g1,g2,g4⟩:=f9s hU h hx.2 hev;refine⟨(x,xs),fz++fzs,m2,hev,λhnf id m hh=>?_,λq hh=>?_,λZ' hz hb=>⟨h4 Z' hz λb⟨q,hq,hb'⟩=>hb b ⟨q,mem_append_left _ hq,hb'⟩,g4 Z' hz λb⟨q,hq,hb'⟩=>hb b ⟨q,mem_append_right _ hq,hb'⟩⟩⟩
   .rcases qK.1 hh with hh|hh;.exact h1 hnf id m hh
    .exact g1 hnf id m hh
   .rcases qK.1 hh with hh|hh;.exact h2 q hh
    .exact g2 q hh|[],_::_,_,_,_,_,_,_,_,hev=>hev.elim|_::_,[],_,_,_,_,_,_,_,hev=>hev.elim|[],[],_::_,_,_,_,_,_,hx,_=>hx.elim|_::_,_::_,[],_,_,_,_,_,hx,_=>hx.elim
def g8a(hU:UOK U)(h:Rel E Z π σ ρ w){nf:Bool}{all:O U.AV}{ua:O A5}(hall:y7 (AVR (cx Z π σ w)) all ua){p:PK U.C}{u:A5}{k:p.T U->O Nat->O (Nat×U.MC)->U.Q}(hx:AVR (cx Z π σ w) a u)(hev:(e5a nf all p a k).Ev σ m0 m v ws):∃x i fz m1,(k x i fz).Ev σ m1 m v ws/\(nf=true->FZ σ fz)/\(∀q∈fz,σ.mem q.1≠.never)/\(∀id∈i,σ.mem id≠.never)/\∀Z',(∀b,Z b->Z' b)->(∀b,b50 σ π fz b->Z' b)->AR σ π (cz Z' w) ua p u x i:=by
 have trl:∀{c:U.C}{l:O (U.T c)}(Z':Nat->Prop),(∀b,Z b->Z' b)->k9 (Rp c) (cx Z π σ w).G w u l->k9 (Rp c) (cz Z' w).G (cz Z' w).w u l:=λZ' hz hr=>k9.weaken hr λb _ hb hz'=>hb (hz b hz')
 cases p with|v c=>
   simp [e5a]at hev;split at hev
   .rename_i x hp;refine⟨x,[],[],_,hev,λ_=>(λ_ _ hh=>by grind),(λ_ hh=>by grind),(λ_ hh=>by grind),λZ' hz _=>⟨rfl,?_⟩⟩;have hs:c1d a=true:=by cases a<;>first
      |rfl
      | (unfold prj at hp;cases hag:U.ag c<;>rw[hag]at hp<;>try(cases hp)
         have hk:=hU.mkl c _ x hp;have hkd:=hU.kind c x;cases hl:U.flds c x with|nil=>rw[hl]at hk;exact hk.elim|cons b r=>
           rw[hl]at hk hkd;simp [all_cons,qB]at hkd;rcases hk.1with h1|⟨h1,_⟩;.rw[<-h1]at hkd;cases hkd.1
           simp_all)
    exact b0h (a1w hU c x).1 (c3i hU hp (a8m hs hx)) rfl hz
   .exact hev.elim|ls c=>
   simp [e5a,argL]at hev;split at hev
   .split at hev;.rename_i l hl;let⟨he,hx2⟩:=a3i (G:=noG) (w:=w) hl;subst he;subst hx2;exact⟨_,[],[],_,hev,λ_=>(λ_ _ hh=>by grind),(λ_ hh=>by grind),(λ_ hh=>by grind),λZ' hz _=>⟨rfl,trl Z' hz hx⟩⟩
    .exact hev.elim
   .exact⟨[],[],[],_,hev,λ_=>(λ_ _ hh=>by grind),(λ_ hh=>by grind),(λ_ hh=>by grind),λZ' hz _=>⟨rfl,.inl ⟨hx,rfl⟩⟩⟩
   .rename_i id;have hm:=h.mem id;simp [Q.Ev]at hev;split at hev
    .rename_i e c' l' hmem;split at hev;.rename_i l hl;let⟨he,hx2⟩:=a3i (G:=noG) (w:=w) hl;subst he;subst hx2;refine⟨_,[],_,_,hev,λ_=>(λid' m' hh=>by simp_all),(λq hh=>by simp_all),(λ_ hh=>by grind),λZ' hz hb=>⟨rfl,?_⟩⟩;rw[hmem]at hm;rw[hx.2.1];refine c0x (X:=cx Z π σ w) hm hz λb hb'=>hb b ⟨_,qF.2 rfl,?_⟩;rw[hmem];let⟨css,hO,_⟩:=hm;let⟨ad,cap,hv,_⟩:=hO.shape;exact(a95 hv).1 hb'
     .exact hev.elim
    .rename_i c' l' hmem;split at hev;.rename_i l hl;let⟨he,hx2⟩:=a3i (G:=noG) (w:=w) hl;subst he;subst hx2;rw[hmem]at hm;exact⟨_,[],[],_,hev,λ_=>(λ_ _ hh=>by cases hh),(λ_ hh=>by grind),(λ_ hh=>by grind),λZ' hz _=>⟨rfl,by rw[hx.2.1];exact k9.weaken hm λb _ hb hz'=>hb (hz b hz')⟩⟩
     .exact hev.elim
    .exact hev.elim
   .exact hev.elim|ow e c=>
   simp [e5a]at hev;split at hev;.exact⟨[],[],[],_,hev,λ_=>(λ_ _ hh=>by grind),(λ_ hh=>by grind),(λ_ hh=>by grind),λZ' hz _=>.inl ⟨rfl,hx,rfl⟩⟩
   .rename_i id;simp [Q.Ev]at hev;split at hev
    .rename_i e' c' l' hmem;split at hev;.rename_i l hbe hl;have h1:=qC hbe;let⟨he,hx2⟩:=a3i (G:=noG) (w:=w) hl;subst he;subst hx2;subst h1;exact⟨_,[id],[],_,hev,λ_=>(λ_ _ hh=>by cases hh),(λ_ hh=>by grind),(λq hh=>by simp_all),λZ' hz _=>.inr ⟨id,rfl,hx.2.1,hmem⟩⟩
     .exact hev.elim
    .exact hev.elim
   .exact hev.elim|rp t c=>let⟨x,fz,m1,h1,h2,h3,h4⟩:=g9o hU h hx hev;exact⟨x,[],fz,m1,h1,h2,h3,(λ_ hh=>by grind),λZ' hz hb=>⟨rfl,h4 Z' hz hb⟩⟩|cl f cs=>
   simp [e5a]at hev;split at hev
   .split at hev;.rename_i hf;have:=qC hf;subst this;let⟨vs,hv,hr⟩:=hx;let⟨x,fz,m1,h1,h2,h3,h4⟩:=f9s hU h hr hev;exact⟨x,[],fz,m1,h1,h2,h3,(λ_ hh=>by cases hh),λZ' hz hb=>⟨rfl,vs,hv,h4 Z' hz hb⟩⟩
    .exact hev.elim
   .exact hev.elim|bn f c=>
   simp [e5a]at hev;split at hev
   .split at hev;.rename_i x hf hp;have:=qC hf;subst this;let⟨r,hv,hr⟩:=hx;exact⟨x,[],[],_,hev,λ_=>(λ_ _ hh=>by grind),(λ_ hh=>by grind),(λ_ hh=>by grind),λZ' hz _=>⟨rfl,r,hv,b0h (a1w hU c x).1 (c3i hU hp hr) rfl hz⟩⟩
    .exact hev.elim
   .exact hev.elim|km g0 t0=>
   simp [e5a]at hev;split at hev;.rename_i g' i;let⟨vs,hv,hvs⟩:=hx;match vs,hvs with
    |[u1],hvs=>
      have h1:=hvs.1;have hi:=h.mem i;simp [Q.Ev]at hev;split at hev
      .rename_i t' j hmi;rw[hmi]at hi;let⟨bb,uu,hpi,hM,ha⟩:=hi;have hj:=h.mem j;simp [Q.Ev]at hev;split at hev
       .rename_i l hmj;rw[hmj]at hj;let⟨mb,hpj,hnd,hmo⟩:=hj;split at hev
        .rename_i hck;simp only[qB]at hck;have e1:=qC hck.1;have e2:=qC hck.2;subst e1;subst e2;have huu:uu=.map (some mb):=by have:=ha.2.1;rw[this];exact hpj
         have hu1:u1=.pointer (some ⟨bb,0,none⟩):=by rw[h1.2.1];exact hpi
         have hcell:uu.cells.toList=[.map (some mb)]:=by rw[huu];rfl
         refine⟨l,[],_,_,hev,(λhnf=>by cases hnf),(λq hh=>?_),(λ_ hh=>by cases hh),λZ' hz hb=>⟨rfl,bb,mb,by rw[hv,hu1],⟨hM.lt,λhn=>hn (hb bb ⟨_,qI,?_⟩)⟩,⟨(qN.1 hmo).1,λhn=>hn (hb mb ⟨_,qJ _ qI,?_⟩)⟩,by rw[<-hcell];exact hM,hnd,hmo⟩⟩
         .simp [qO,not_mem_nil,or_false]at hh;rcases hh with rfl|rfl;.rw[hmi];intro h;cases h
          .rw[hmj];intro h;cases h
         .rw[hmi,hpi];rfl
         .rw[hmj,hpj];rfl
        .exact hev.elim
       .exact hev.elim
      .exact hev.elim|[],hvs=>exact hvs.elim|_::_::_,hvs=>exact hvs.2.elim
   .exact hev.elim|vl g0 t0 c=>
   simp [e5a]at hev;split at hev;.rename_i g' i;let⟨vs,hv,hvs⟩:=hx;match vs,hvs with
    |[u1],hvs=>
      have h1:=hvs.1;have hi:=h.mem i;simp [Q.Ev]at hev;split at hev
      .rename_i t' b0 hmi;rw[hmi]at hi;let⟨bb,uu,hpi,hM,ha⟩:=hi;have hu1:u1=.pointer (some ⟨bb,0,none⟩):=by rw[h1.2.1];exact hpi
       have key:∀(l:O (U.T c))m1,(k l [] [(i,.dead)]).Ev σ m1 m v ws->(Nat.beq g0 g'&&Nat.beq t0 t')=true->k9 (Rp c) (cx Z π σ w).G w uu l->∃x i fz m1,(k x i fz).Ev σ m1 m v ws/\(false=true->FZ σ fz)/\(∀q∈fz,σ.mem q.1≠.never)/\(∀id∈i,σ.mem id≠.never)/\∀Z',(∀b,Z b->Z' b)->(∀b,b50 σ π fz b->Z' b)->AR σ π (cz Z' w) ua (.vl g0 t0 c) u x i:=by
        intro l m1 hev2 hck hr;simp only[qB]at hck;have e1:=qC hck.1;have e2:=qC hck.2;subst e1;subst e2;have hcell:=c0w (c7u hr);refine⟨l,[],_,_,hev2,(λhnf=>by cases hnf),(λq hh=>?_),(λ_ hh=>by cases hh),λZ' hz hb=>⟨rfl,bb,uu,by rw[hv,hu1],⟨hM.lt,λhn=>hn (hb bb ⟨_,qI,?_⟩)⟩,by rw[<-hcell];exact hM,k9.weaken hr λb _ hb hz'=>hb (hz b hz')⟩⟩;.simp [qO,not_mem_nil,or_false]at hh;subst hh;rw[hmi];intro h;cases h
        .rw[hmi,hpi];rfl
       cases hck:(Nat.beq g0 g'&&Nat.beq t0 t')with|false=>rw[hck]at hev;cases b0<;>exact hev.elim|true=>
         rw[hck]at hev;cases b0<;>try exact hev.elim
         .exact key [] _ hev hck (.inl ⟨ha,rfl⟩)
         .rename_i c' l';simp []at hev;cases hl:b8i c l' with|none=>rw[hl]at hev;exact hev.elim|some l=>rw[hl]at hev;let⟨he,hx2⟩:=a3i (G:=noG) (w:=w) hl;subst he;subst hx2;exact key _ _ hev hck ha
      .exact hev.elim|[],hvs=>exact hvs.elim|_::_::_,hvs=>exact hvs.2.elim
   .split at hev;.rename_i l hbe hl;simp only[qB]at hbe;have e1:=qC hbe.1;have e2:=qC hbe.2;subst e1;subst e2;let⟨he,hx2⟩:=a3i (G:=noG) (w:=w) hl;subst he;subst hx2;let⟨bb,sv,h1,⟨h2,h3⟩,h4,h5⟩:=hx;exact⟨_,[],[],_,hev,(λhnf=>by grind),(λ_ hh=>by grind),(λ_ hh=>by grind),λZ' hz _=>⟨rfl,bb,sv,h1,⟨h2,λhn=>h3 λhzb=>hn (hz bb hzb)⟩,h4,k9.weaken h5 λb _ hb hz'=>hb (hz b hz')⟩⟩
    .exact hev.elim
   .exact hev.elim|po b f e c=>
   simp [e5a]at hev;split at hev
   .rename_i id;simp [Q.Ev]at hev;split at hev
    .rename_i e' c' l' hmem;split at hev;.rename_i l hbe hl;have h1:=qC hbe;let⟨he,hx2⟩:=a3i (G:=noG) (w:=w) hl;subst he;subst hx2;subst h1;exact⟨_,[id],[],_,hev,λ_=>(λ_ _ hh=>by cases hh),(λ_ hh=>by grind),(λq hh=>by simp_all),λZ' hz _=>⟨id,rfl,hx.2.1,hmem⟩⟩
     .exact hev.elim
    .exact hev.elim
   .exact hev.elim|so e c=>
   simp [e5a]at hev;split at hev
   .rename_i id;simp [Q.Ev]at hev;split at hev
    .rename_i e' c' l' hmem;split at hev;.rename_i l hbe hl;have h1:=qC hbe;let⟨he,hx2⟩:=a3i (G:=noG) (w:=w) hl;subst he;subst hx2;subst h1;exact⟨_,[id],[],_,hev,λ_=>(λ_ _ hh=>by cases hh),(λ_ hh=>by grind),(λq hh=>by simp_all),λZ' hz _=>⟨id,rfl,hx.2.1,hmem⟩⟩
     .exact hev.elim
    .exact hev.elim
   .exact hev.elim|im t c mm=>
   simp [e5a]at hev;split at hev
   .rename_i id;simp [Q.Ev]at hev;split at hev
    .rename_i t' c' fs hmem;split at hev
     .rename_i x hck hp;simp only[qB]at hck;have h1:=qC hck.1.1;subst h1;have h2:=c0a hck.1.2;subst h2;refine⟨x,[id],[],_,hev,λ_=>(λ_ _ hh=>by cases hh),(λ_ hh=>by cases hh),(λq hh=>by simp_all),λZ' hz _=>⟨id,fs,rfl,hx.2.1,hmem,hp,λf k hk=>?_⟩⟩;have hmo:=qX.1 hck.2 _ hk;split at hmo;.rename_i i j hi hj;have hij:=qC hmo;subst hij;let⟨uk,huk,hrk⟩:=hall.get hj;exact⟨i,c1y hi,by rw[huk,hrk.2.1];rfl⟩
      grind
     .exact hev.elim
    .exact hev.elim
   .exact hev.elim|io t c=>
   simp [e5a]at hev;split at hev
   .rename_i id;simp [Q.Ev]at hev;split at hev
    .rename_i t' b0 hmem;split at hev
     .rename_i hbe;have h1:=qC hbe;subst h1;have hm:=h.mem id;rw[hmem]at hm;let⟨x,fz,m1,hev,hf,blk,u1,hv,hM,hr⟩:=g00 hU h hm hev;refine⟨x,[id],fz,_,hev,λ_=>hf,(λq hh=>?_),(λq hh=>by simp_all),λZ' hz hb=>⟨id,b0,rfl,hx.2.1,hmem,?_⟩⟩;.let⟨e,c1,l1,h1,_⟩:=hf q.1 q.2 hh;simp_all
      .let⟨u2,hu2,hr2⟩:=a18 (hr Z' hz hb);exact⟨blk,u2,hx.2.1.trans hv,by rw[hu2];exact hM,hr2⟩
     .exact hev.elim
    .exact hev.elim
   .exact hev.elim
def f1q(hU:UOK U)(h:Rel E Z π σ ρ w){nf:Bool}{all:O U.AV}{ua:O A5}(hall:y7 (AVR (cx Z π σ w)) all ua):∀{ps:O (PK U.C)}{as:O U.AV}{us:O A5}{k:Args U ps->O (O Nat)->O (Nat×U.MC)->U.Q}{m0 m:Nat}{v:U.AV}{ws:O (Nat×U.MC)},y7 (AVR (cx Z π σ w)) as us->(g55 nf all ps as k).Ev σ m0 m v ws->∃xs is fz m1,(k xs is fz).Ev σ m1 m v ws/\(nf=true->FZ σ fz)/\(∀q∈fz,σ.mem q.1≠.never)/\(∀i∈is,∀id∈i,σ.mem id≠.never)/\∀Z',(∀b,Z b->Z' b)->(∀b,b50 σ π fz b->Z' b)->ARs σ π (cz Z' w) ua ps us xs is
 |[],[],[],k,m0,m,v,ws,_,hev=>⟨(),[],[],m0,hev,λ_=>(λ_ _ hh=>by grind),(λ_ hh=>by grind),(λ_ hh=>by grind),λ_ _ _=>trivial⟩|p::ps,a::as,u::us,k,m0,m,v,ws,hx,hev=>by
   let ⟨x,i,fz,m1,hev,h1,h2,h3,h4⟩:=g8a hU h hall hx.1 hev;let ⟨xs,is,fzs,m2,hev,g1,g2,g3,g4⟩:=f1q hU h hall hx.2 hev;refine⟨(x,xs),i::is,fz++fzs,m2,hev,λhnf id m hh=>?_,λq hh=>?_,λj hj=>?_,λZ' hz hb=>⟨h4 Z' hz λb⟨q,hq,hb'⟩=>hb b ⟨q,mem_append_left _ hq,hb'⟩,g4 Z' hz λb⟨q,hq,hb'⟩=>hb b ⟨q,mem_append_right _ hq,hb'⟩⟩⟩
   .rcases qK.1 hh with hh|hh;.exact h1 hnf id m hh
    .exact g1 hnf id m hh
   .rcases qK.1 hh with hh|hh;.exact h2 q hh
    .exact g2 q hh
   .rcases qO.1 hj with hj|hj;.subst hj;omega
    .exact g3 j hj|[],_::_,_,_,_,_,_,_,_,hev=>hev.elim|_::_,[],_,_,_,_,_,_,_,hev=>hev.elim|[],[],_::_,_,_,_,_,_,hx,_=>hx.elim|_::_,_::_,[],_,_,_,_,_,hx,_=>hx.elim
def g9f(h:Rel E Z π σ ρ w):∀{ps:O (PK U.C)}{as:O U.AV}{k:O U.AV->U.Q}{m0 m:Nat}{v:U.AV}{ws:O (Nat×U.MC)},(f9j ps as k).Ev σ m0 m v ws->∃ex vs m1,y7 (AVR (cx Z π σ w)) ex vs/\(k ex).Ev σ m1 m v ws:=by intro ps;induction ps with|nil=>intro as k m0 m v ws hev;exact⟨[],[],m0,trivial,by simp_all[f9j]⟩|cons p ps ih=>
   intro as k m0 m v ws hev;cases as with|nil=>
     have e:f9j (p::ps) [] k=k []:=by cases p<;>rfl
     rw[e]at hev;exact⟨[],[],m0,trivial,hev⟩|cons a as=>
     have skip:(f9j ps as k).Ev σ m0 m v ws->∃ex vs m1,y7 _ ex vs/\(k ex).Ev σ m1 m v ws:=λh=>ih h
     cases p with|im t c mm=>
       cases a<;>try exact skip hev
       rename_i id;have hm:=h.mem id;have hev:(match σ.mem id with|.box _ (.st _ fs)=>f9j ps as _|_=>.fail).Ev σ _ m v ws:=hev;split at hev
       .rename_i t' c' fs hmem;let ⟨ex,vs,m1,h1,h2⟩:=ih hev;rw[hmem]at hm;let ⟨blk,u,hv,hM,css,hu,hlay,hpp,hr⟩:=hm;have hfld:∀l:O _,∃vs:O A5,y7 (AVR (cx Z π σ w)) (l.filterMap λ(q:Nat×Nat)=>(c71 fs q.1).map (AV.ref:Nat->U.AV)) vs:=by intro l;induction l with|nil=>exact⟨[],trivial⟩|cons q l ih=>let ⟨vs,hvs⟩:=ih;cases hra:c71 fs q.1with|none=>exact⟨vs,by simpa[hra]using hvs⟩|some i=>let ⟨s,hs,u1,hu1,hr1⟩:=hr.get (c1y hra);refine⟨u1::vs,?_⟩;simp [filterMap_cons,hra,Option.map_some];exact⟨hr1,hvs⟩
        let ⟨vs0,hvs0⟩:=hfld mm;exact⟨_,vs0++vs,m1,a87 hvs0 h1,h2⟩
       .exact hev.elim|_=>exact skip (by cases a<;>exact hev)
end
end
section
variable {P:Program} {U:Uni}
variable {E:Env} {Z:Nat -> Prop} {π:Nat -> A5} {σ:U.St} {ρ:Nat -> A5} {w:World}
variable {m0 m:Nat} {a b v:U.AV} {ws:O (Nat×U.MC)} {fr:Nat}
def y8{k t:Nat}{a:U.AV}{l:O (Nat×U.AV)}{me:O (Nat×U.MC)}{nx:Nat}:St.slot ⟨(k,a)::l,me,nx⟩ t=if k=t then a else St.slot ⟨l,me,nx⟩ t:=by simp [St.slot,lk];cases hk:Nat.beq k t with|true=>simp_all|false=>simp_all[if_neg,Nat.ne_of_beq_eq_false]
def mem_cons{k t:Nat}{a:U.MC}{l:O (Nat×U.AV)}{me:O (Nat×U.MC)}{nx:Nat}:St.mem ⟨l,(k,a)::me,nx⟩ t=if k=t then a else St.mem ⟨l,me,nx⟩ t:=by simp [St.mem,lk];cases hk:Nat.beq k t with|true=>simp_all|false=>simp_all[if_neg,Nat.ne_of_beq_eq_false]
def g91{X X':Cx}{a:U.AV}{u:A5}(hw:X'.w=X.w)(hz:X'.Z=X.Z)(h:a1p X (.rp a) u):a1p X' (.rp a) u:=by
 let ⟨ad,cs,hv,hb,hg,hca,hr⟩:=h;have hG:X'.G=X.G:=by unfold Cx.G;grind
 exact⟨ad,cs,hv,by simp_all,by simp_all,by simp_all,by simp_all⟩
def f9c{X X':Cx}(hw:X'.w=X.w)(hz:X'.Z=X.Z):∀(cs:O U.C)(x:CapT U cs)(vs:O A5),y7 (a1p X) (f3e cs x) vs->y7 (a1p X') (f3e cs x) vs|[],_,[],_=>trivial|[],_,_::_,h=>h.elim|_::_,_,[],h=>h.elim|c::cs,(x,xs),u::us,h=>⟨g91 hw hz h.1,f9c hw hz cs xs us h.2⟩
def g8m(hU:UOK U)(h:Rel E Z π σ ρ w){Zc:Nat->Prop}{ρc:Nat->A5}{X:Cx}(h1:X.Z=Zc)(h2:X.w=w)(h3:X.π=ρc){all:O A5}:∀(ps:O (PK U.C))(k:Nat)(us:O A5)(xs:Args U ps)(is:O (O Nat)),ARs σ π (cz Zc w) all ps us xs is->(∀(j:Nat)v,us[j]?=some v->ρc (k+j)=v)->(∀id,(a02 k ps xs).mem id≠.never->X.us id)->∀t,AVR X ((a02 k ps xs).slot t) (ρc t)
 |[],k,us,xs,is,_,_,_,t=>trivial|p::ps,k,[],xs,is,h,_,_,_=>h.elim|p::ps,k,u::us,(x,xs),[],h,_,_,_=>h.elim|p::ps,k,u::us,(x,xs),i::is,⟨ha,hr⟩,hρ,hus,t=>by
   have hk:ρc k=u:=by simpa using hρ 0 u rfl
   have ih:=g8m hU h h1 h2 h3 ps (k+1) us xs is hr (λj v hv=>by have:=hρ (j+1) v (by simp_all);rwa[show k+(j+1)=k+1+j by omega]at this);have fld:∀{c:U.C}{x:U.T c}{u:A5},a1p (cz Zc w) (inj c x) u->AVR X (inj c x) u:=λhh=>AVR.of1 (b0h (a1w hU _ _).1 hh h2 (by rw[h1];exactλ_ h=>h))
   cases p with|v c=>
     show AVR X (St.slot ⟨(k,inj c x)::(a02 (k+1) ps xs).sl,_,_⟩ t) _;rw[y8];split;.rename_i e;subst e;rw[hk];exact fld ha.2
     .exact ih hus t|ls c=>
     show AVR X (St.slot ⟨(k,.list c x)::(a02 (k+1) ps xs).sl,_,_⟩ t) _;rw[y8];split;.rename_i e;subst e;rw[hk];show k9 (Rp c) X.G X.w u x;unfold Cx.G;rw[h2,h1];exact ha.2
     .exact ih hus t|rp ty c=>
     show AVR X (St.slot ⟨(k,.rp (inj c x))::(a02 (k+1) ps xs).sl,_,_⟩ t) _;rw[y8];split
     .rename_i e;subst e;rw[hk];obtain⟨ad,cs,hv,hb,hg,hca,hr⟩:=ha.2;refine⟨ad,cs,hv,?_,?_,?_,?_⟩;.rw[h2];exact hb
      .unfold Cx.G;rw[h1];exact hg
      .rw[h2];exact hca
      .unfold Cx.G;rw[h2,h1];exact hr
     .exact ih hus t|ow e c=>
     have hus2:∀id,(a02 (k+1) ps xs).mem id≠.never->X.us id:=λid hid=>hus id (by
      show St.mem ⟨_,(k,.sl e c x)::(a02 (k+1) ps xs).me,_⟩ id≠_;rw[mem_cons];split;.grind
      .exact hid);show AVR X (St.slot ⟨(k,.ref k)::(a02 (k+1) ps xs).sl,_,_⟩ t) _;rw[y8];split
     .rename_i e';subst e';refine⟨hus k ?_,by grind,?_⟩;.show St.mem ⟨_,(k,.sl e c x)::(a02 (k+1) ps xs).me,_⟩ k≠_;rw[mem_cons,if_pos rfl];grind
      .rw[hk];rcases ha with⟨_,hu,_⟩|⟨id,_,hu,hmem⟩;.rw[hu];rfl
       .obtain⟨ad,cap,hv⟩:=e2e h (.inl ⟨e,hmem⟩);rw[hu,hv];rfl
     .exact ih hus2 t|io ty c=>
     have hus2:∀id,(a02 (k+1) ps xs).mem id≠.never->X.us id:=λid hid=>hus id (by
      show St.mem ⟨_,(k,.box ty (inj c x))::(a02 (k+1) ps xs).me,_⟩ id≠_;rw[mem_cons];split;.grind
      .exact hid);show AVR X (St.slot ⟨(k,.ref k)::(a02 (k+1) ps xs).sl,_,_⟩ t) _;rw[y8];split
     .rename_i e';subst e';refine⟨hus k ?_,by grind,?_⟩;.show St.mem ⟨_,(k,.box ty (inj c x))::(a02 (k+1) ps xs).me,_⟩ k≠_;rw[mem_cons,if_pos rfl];grind
      .rw[hk];obtain⟨id,b,_,hu,hmem,_⟩:=ha;have hm:=h.mem id;rw[hmem]at hm;obtain⟨blk,u1,hv,_⟩:=hm;rw[hu,hv];rfl
     .exact ih hus2 t|im ty c m=>
     have hus2:∀id,(a02 (k+1) ps xs).mem id≠.never->X.us id:=λid hid=>hus id (by
      show St.mem ⟨_,(k,.box ty (.st c (b8h m (U.flds c x))))::(a02 (k+1) ps xs).me,_⟩ id≠_;rw[mem_cons];split;.grind
      .exact hid);show AVR X (St.slot ⟨(k,.ref k)::(a02 (k+1) ps xs).sl,_,_⟩ t) _;rw[y8];split
     .rename_i e';subst e';refine⟨hus k ?_,by grind,?_⟩;.show St.mem ⟨_,(k,.box ty (.st c (b8h m (U.flds c x))))::(a02 (k+1) ps xs).me,_⟩ k≠_;rw[mem_cons,if_pos rfl];grind
      .rw[hk];obtain⟨id,fs,_,hu,hmem,_⟩:=ha;have hm:=h.mem id;rw[hmem]at hm;obtain⟨blk,u1,hv,_⟩:=hm;rw[hu,hv];rfl
     .exact ih hus2 t|so e c=>
     have hus2:∀id,(a02 (k+1) ps xs).mem id≠.never->X.us id:=λid hid=>hus id (by
      show St.mem ⟨_,(k,.sl e c x)::(a02 (k+1) ps xs).me,_⟩ id≠_;rw[mem_cons];split;.grind
      .exact hid);show AVR X (St.slot ⟨(k,.ref k)::(a02 (k+1) ps xs).sl,_,_⟩ t) _;rw[y8];split
     .rename_i e';subst e';refine⟨hus k ?_,by grind,?_⟩;.show St.mem ⟨_,(k,.sl e c x)::(a02 (k+1) ps xs).me,_⟩ k≠_;rw[mem_cons,if_pos rfl];grind
      .rw[hk];obtain⟨id,_,hu,hmem⟩:=ha;obtain⟨ad,cap,hv⟩:=e2e h (.inl ⟨e,hmem⟩);rw[hu,hv];rfl
     .exact ih hus2 t|po b f e c=>
     have hus2:∀id,(a02 (k+1) ps xs).mem id≠.never->X.us id:=λid hid=>hus id (by
      show St.mem ⟨_,(k,.sl e c x)::(a02 (k+1) ps xs).me,_⟩ id≠_;rw[mem_cons];split;.grind
      omega);exact ih hus2 t|cl f cs=>
     show AVR X (St.slot ⟨(k,.clo f (f3e cs x))::(a02 (k+1) ps xs).sl,_,_⟩ t) _;rw[y8];split;.rename_i e;subst e;rw[hk];obtain⟨_,vs,hv,hr⟩:=ha;exact⟨vs,hv,f9c (by rw[h2];rfl) (by rw[h1];rfl) cs x vs hr⟩
     .exact ih hus t|bn f c=>
     show AVR X (St.slot ⟨(k,.bnd f (inj c x))::(a02 (k+1) ps xs).sl,_,_⟩ t) _;rw[y8];split;.rename_i e;subst e;rw[hk];obtain⟨_,r,hv,hr⟩:=ha;exact⟨r,hv,b0h (a1w hU _ _).1 hr h2 (by rw[h1];exactλ_ h=>h)⟩
     .exact ih hus t|km g0 t0=>
     show AVR X (St.slot ⟨(k,.km g0 t0 x)::(a02 (k+1) ps xs).sl,_,_⟩ t) _;rw[y8];split;.rename_i e;subst e;rw[hk];obtain⟨_,bb,mb,hv,⟨q1,q2⟩,⟨q3,q4⟩,q5,q6,q7⟩:=ha;exact⟨bb,mb,hv,⟨by rw[h2];exact q1,by unfold Cx.G;rw[h1];exact q2⟩,⟨by rw[h2];exact q3,by unfold Cx.G;rw[h1];exact q4⟩,by rw[h2];exact q5,q6,by rw[h2];exact q7⟩
     .exact ih hus t|vl g0 t0 c=>
     show AVR X (St.slot ⟨(k,.vl g0 t0 c x)::(a02 (k+1) ps xs).sl,_,_⟩ t) _;rw[y8];split;.rename_i e;subst e;rw[hk];obtain⟨_,bb,sv,hv,⟨q1,q2⟩,q5,q6⟩:=ha;exact⟨bb,sv,hv,⟨by rw[h2];exact q1,by unfold Cx.G;rw[h1];exact q2⟩,by rw[h2];exact q5,by unfold Cx.G;rw[h2,h1];exact q6⟩
     .exact ih hus t
def g7i(hU:UOK U)(h:Rel E Z π σ ρ w){Zc:Nat->Prop}(hz:∀b,Z b->Zc b){ρc:Nat->A5}{X:Cx}(h1:X.Z=Zc)(h2:X.w=w)(h3:X.π=ρc){all:O A5}(hall:∀k u,all[k]?=some u->ρc k=u):∀(ps:O (PK U.C))(k:Nat)(us:O A5)(xs:Args U ps)(is:O (O Nat)),ARs σ π (cz Zc w) all ps us xs is->(∀(j:Nat)v,us[j]?=some v->ρc (k+j)=v)->(∀t c m q,.im t c m∈ps->q∈m->X.us q.2)->(∀id,MR X ((a02 k ps xs).mem id) (ρc id))/\∀i b,MB ((a02 k ps xs).mem i) (ρc i) b->∃j id,i=k+j/\is[j]?=some [id]/\MB (σ.mem id) (π id) b
 |[],k,us,xs,is,_,_,_=>⟨λ_=>trivial,λ_ _ h=>h.elim⟩|p::ps,k,[],xs,is,h,_,_=>h.elim|p::ps,k,u::us,(x,xs),[],h,_,_=>h.elim|p::ps,k,u::us,(x,xs),i::is,⟨ha,hr⟩,hρ,hmu=>by
   have hk:ρc k=u:=by simpa using hρ 0 u rfl
   obtain⟨ih1,ih2⟩:=g7i hU h hz h1 h2 h3 hall ps (k+1) us xs is hr (λj v hv=>by have:=hρ (j+1) v (by grind);grind) (λt c m q hm hq=>hmu t c m q (qJ _ hm) hq);have ih2':∀i' b,MB ((a02 (k+1) ps xs).mem i') (ρc i') b->∃j id,i'=k+j/\(i::is)[j]?=some [id]/\MB (σ.mem id) (π id) b:=λi' b hb=>by obtain⟨j,id,e,h3,h4⟩:=ih2 i' b hb;exact⟨j+1,id,by omega,by simpa using h3,h4⟩
   cases p with|v c=>exact⟨ih1,ih2'⟩|ls c=>exact⟨ih1,ih2'⟩|rp ty c=>exact⟨ih1,ih2'⟩|ow e c=>
     refine⟨λid=>?_,λi' b hb=>?_⟩
     .show MR X (St.mem ⟨_,(k,.sl e c x)::(a02 (k+1) ps xs).me,_⟩ id) _;rw[mem_cons];split
      .rename_i e';subst e';rw[hk];rcases ha with⟨_,hu,hl⟩|⟨id,_,hu,hmem⟩;.subst hl;rw[hu];exact⟨[],Own.nil _ _ _ _ _,trivial⟩
       .have hm:=h.mem id;rw[hmem]at hm;obtain⟨css,hO,hr⟩:=hm;refine⟨css,by rw[hu,h2];exact hO,hr.mono λr xv hh=>?_⟩;rw[h2];unfold Cx.G;rw[h1];exact(Rp c).weaken hh λb _ hb hz'=>hb (hz b hz')
      .exact ih1 id
     .have hb:MB (St.mem ⟨(a02 k (.ow e c::ps) (x,xs)).sl,(k,.sl e c x)::(a02 (k+1) ps xs).me,(a02 (k+1) ps xs).nx⟩ i') (ρc i') b:=hb;rw[mem_cons]at hb;split at hb
      .rename_i e';subst e';rw[hk]at hb;rcases ha with⟨_,hu,hl⟩|⟨id,hi,hu,hmem⟩;.rw[hu]at hb;cases hb
       .refine⟨0,id,by omega,by rw[hi];rfl,?_⟩;rw[hmem,<-hu];omega
      .exact ih2' i' b hb|io ty c=>
     refine⟨λid=>?_,λi' b hb=>?_⟩
     .show MR X (St.mem ⟨_,(k,.box ty (inj c x))::(a02 (k+1) ps xs).me,_⟩ id) _;rw[mem_cons];split;.rename_i e';subst e';rw[hk];obtain⟨id,b,_,hu,hmem,blk,u1,hv,hM,hr⟩:=ha;exact⟨blk,u1,hv,by rw[h2];exact hM,b0h (X':=X) (a1w hU c x).1 hr h2 (by rw[h1];exactλ_ hb=>hb)⟩
      .exact ih1 id
     .have hb:MB (St.mem ⟨(a02 k (.io ty c::ps) (x,xs)).sl,(k,.box ty (inj c x))::(a02 (k+1) ps xs).me,(a02 (k+1) ps xs).nx⟩ i') (ρc i') b:=hb;rw[mem_cons]at hb;split at hb;.rename_i e';subst e';rw[hk]at hb;obtain⟨id,b0,hi,hu,hmem,hp⟩:=ha;refine⟨0,id,by omega,by rw[hi];rfl,?_⟩;rw[hmem,<-hu];exact hb
      .exact ih2' i' b hb|cl f cs=>exact⟨ih1,ih2'⟩|bn f c=>exact⟨ih1,ih2'⟩|km f t=>exact⟨ih1,ih2'⟩|vl f t c=>exact⟨ih1,ih2'⟩|po b0 f e c=>
     refine⟨λid=>?_,λi' b hb=>?_⟩
     .show MR X (St.mem ⟨_,(k,.sl e c x)::(a02 (k+1) ps xs).me,_⟩ id) _;rw[mem_cons];split;.rename_i e';subst e';rw[hk];obtain⟨id,_,hu,hmem⟩:=ha;have hm:=h.mem id;rw[hmem]at hm;obtain⟨css,hO,hr⟩:=hm;refine⟨css,by rw[hu,h2];exact hO,hr.mono λr xv hh=>?_⟩;rw[h2];unfold Cx.G;rw[h1];exact(Rp c).weaken hh λb _ hb hz'=>hb (hz b hz')
      .exact ih1 id
     .have hb:MB (St.mem ⟨(a02 k (.po b0 f e c::ps) (x,xs)).sl,(k,.sl e c x)::(a02 (k+1) ps xs).me,(a02 (k+1) ps xs).nx⟩ i') (ρc i') b:=hb;rw[mem_cons]at hb;split at hb;.rename_i e';subst e';rw[hk]at hb;obtain⟨id,hi,hu,hmem⟩:=ha;refine⟨0,id,by omega,by rw[hi];rfl,?_⟩;rw[hmem,<-hu];omega
      .exact ih2' i' b hb|so e c=>
     refine⟨λid=>?_,λi' b hb=>?_⟩
     .show MR X (St.mem ⟨_,(k,.sl e c x)::(a02 (k+1) ps xs).me,_⟩ id) _;rw[mem_cons];split;.rename_i e';subst e';rw[hk];obtain⟨id,_,hu,hmem⟩:=ha;have hm:=h.mem id;rw[hmem]at hm;obtain⟨css,hO,hr⟩:=hm;refine⟨css,by rw[hu,h2];exact hO,hr.mono λr xv hh=>?_⟩;rw[h2];unfold Cx.G;rw[h1];exact(Rp c).weaken hh λb _ hb hz'=>hb (hz b hz')
      .exact ih1 id
     .have hb:MB (St.mem ⟨(a02 k (.so e c::ps) (x,xs)).sl,(k,.sl e c x)::(a02 (k+1) ps xs).me,(a02 (k+1) ps xs).nx⟩ i') (ρc i') b:=hb;rw[mem_cons]at hb;split at hb;.rename_i e';subst e';rw[hk]at hb;obtain⟨id,hi,hu,hmem⟩:=ha;refine⟨0,id,by omega,by rw[hi];rfl,?_⟩;rw[hmem,<-hu];omega
      .exact ih2' i' b hb|im ty c m=>
     refine⟨λid=>?_,λi' b hb=>?_⟩
     .show MR X (St.mem ⟨_,(k,.box ty (.st c (b8h m (U.flds c x))))::(a02 (k+1) ps xs).me,_⟩ id) _;rw[mem_cons];split
      .rename_i e';subst e';rw[hk];obtain⟨id,fs,_,hu,hmem,hp,hmm⟩:=ha;have hm:=h.mem id;rw[hmem]at hm;obtain⟨blk,u1,hv,hM,css,hu1,hlay,hpp,hr⟩:=hm;obtain⟨k1,k2,k3⟩:=d37 hU (X:=cx Z π σ w) (X':=X) hlay hpp hr hp h2 (by rw[h1];exact hz) λj jd hj=>by obtain⟨j',hj1,hj2⟩:=hmm j jd hj;exact⟨j',hj1,hmu ty c m _ qI hj,by rw[h3];exact hall _ _ hj2⟩
       exact⟨blk,u1,by rw[hu];omega,by rw[h2];exact hM,css,hu1,k1,k2,k3⟩
      .exact ih1 id
     .have hb:MB (St.mem ⟨(a02 k (.im ty c m::ps) (x,xs)).sl,(k,.box ty (.st c (b8h m (U.flds c x))))::(a02 (k+1) ps xs).me,(a02 (k+1) ps xs).nx⟩ i') (ρc i') b:=hb;rw[mem_cons]at hb;split at hb;.rename_i e';subst e';rw[hk]at hb;obtain⟨id,fs,hi,hu,hmem,hp,_⟩:=ha;refine⟨0,id,by omega,by rw[hi];rfl,?_⟩;rw[hmem,<-hu];exact hb
      .exact ih2' i' b hb
def b9f:∀{l:O (O Nat)},c6k l=true->∀(i j:Nat)(p q:O Nat)(a b:Nat),l[i]?=some p->l[j]?=some q->a∈p->b∈q->i≠j->a≠b
 |[],_,i,j,p,q,a,b,hi,_,_,_,_=>by simp_all|p0::l,h,i,j,p,q,a,b,hi,hj,ha,hb,hne=>by
   simp only[c6k,qB]at h;have cross:∀(p q:O Nat)(j a b:Nat),p=p0->l[j]?=some q->a∈p->b∈q->a≠b:=by intro p q j a b hp hj2 ha2 hb2 e;subst e;rw[hp]at ha2;have h1:=qX.1 (qX.1 (qX.1 h.1 a ha2) q (qE hj2)) a hb2;simp at h1
   cases i with
   |zero=>cases j with|zero=>omega|succ j=>exact cross p q j a b (by simpa using hi.symm) (by simpa using hj) ha hb
   |succ i=>cases j with|zero=>exactλe=>cross q p i b a (by simpa using hj.symm) (by simpa using hi) hb ha e.symm|succ j=>exact b9f h.2 i j p q a b (by simpa using hi) (by simpa using hj) ha hb (λe=>hne (by rw[e]))
def memK{C:Type}:PK C->Bool|.ow _ _|.io _ _|.im _ _ _|.po _ _ _ _|.so _ _=>true|_=>false
def c52:∀(ps:O (PK U.C))(k:Nat)(xs:Args U ps)(id:Nat)(p:PK U.C),ps[id-k]?=some p->memK p=true->k<=id->b7a (a02 k ps xs) id
 |[],k,xs,id,p,h,_,_=>by grind|p0::ps,k,(x,xs),id,p,h,hp,hk=>by
   have step:id≠k->b7a _ id:=λhne=>by rw[show id-k=(id-(k+1))+1by omega]at h;exact c52 ps (k+1) xs id p (by simp_all) hp (by omega)
   have go:∀(mc:U.MC)(sl:O _)(nx:Nat),mc≠.never->(id≠k->b7a _ id)->St.mem ⟨sl,(k,mc)::(a02 (k+1) ps xs).me,nx⟩ id≠.never:=λmc sl nx hmc hs=>by
    rw[mem_cons];split;.omega
    .rename_i hne;exact hs (Ne.symm hne)
   by_cases hid:id=k;.subst hid;simp at h;subst h;cases p0<;>first|(cases hp;done)|exact go _ _ _ (λh=>by grind) step
   .cases p0<;>first|exact (step hid)|exact go _ _ _ (λh=>by grind) step
def g2v(ps:O (PK U.C))(xs:Args U ps)(id:Nat)(h:c0f ps id):b7a (a02 0 ps xs) id:=by
 rcases h with⟨t,c,h⟩|⟨t,c,m,h⟩|⟨e,c,h⟩;.exact c52 ps 0 xs id _ (by omega) rfl (by omega)
 .exact c52 ps 0 xs id _ (by omega) rfl (by omega)
 .exact c52 ps 0 xs id _ (by omega) rfl (by omega)
def e3z:∀(ps:O (PK U.C))(k:Nat)(xs:Args U ps)(t:Nat),(a02 k ps xs).slot t=.unk\/∃p,k<=t/\ps[t-k]?=some p/\d4j p=false
 |[],k,xs,t=>.inl rfl|p0::ps,k,(x,xs),t=>by
   have step:(a02 (k+1) ps xs).slot t=.unk\/∃p,k<=t/\(p0::ps)[t-k]?=some p/\d4j p=false:=by
    rcases e3z ps (k+1) xs t with h|⟨p,h1,h2,h3⟩;.simp_all
    .refine .inr ⟨p,by omega,?_,h3⟩;rw[show t-k=(t-(k+1))+1by omega];simp_all
   have go:∀(a:U.AV)(me:O _)(nx:Nat),d4j p0=false->St.slot ⟨(k,a)::(a02 _ ps xs).sl,me,nx⟩ t=.unk\/∃p,k<=t/\(p0::ps)[t-k]?=some p/\d4j p=false:=λa me nx hp=>by
    rw[y8];split;.simp_all
    .exact step
   cases p0<;>first|exact go _ _ _ rfl|exact step
def c5s{all:O (PK U.C)}:∀(ps:O (PK U.C))(i:Nat),c2u all i ps=true->∀t c m q,.im t c m∈ps->q∈m->∃b f e c',all[q.2]?=some (.po b f e c')
 |[],i,_,t,c,m,q,h,_=>by grind|p0::ps,i,h,t,c,m,q,hm,hq=>by
   rcases qO.1 hm with e|e
   .subst e;simp only[c2u,qB]at h;have h1:=qX.1 h.1 q hq;split at h1;.rename_i b f e c' hx;exact⟨b,f,e,c',hx⟩
    grind
   .exact c5s ps _ (by cases p0<;>first|exact h|(simp [c2u,qB]at h;grind)) t c m q e hq
def e5l{ps:O (PK U.C)}(h:h0i ps=true){t:Nat}{p:PK U.C}(hp:ps[t]?=some p)(hn:d4j p=false):t<npK ps:=by
 rcases Nat.lt_or_ge t _ with h1|h1;.omega
 .have:p∈ps.drop (npK ps):=by refine qE (i:=t-npK ps) ?_;simp_all
  have:=qX.1 h p this;simp_all
def f2x(hU:UOK U)(h:Rel E Z π σ ρ w){fz:O (Nat×U.MC)}{ps:O (PK U.C)}{us:O A5}{xs:Args U ps}{is:O (O Nat)}{ρc ρs:Nat->A5}(hmi:b4o ps=true)(hs:∀t,t<npK ps->ρs t=ρc t)(hfn:∀q∈fz,σ.mem q.1≠.never)(hA:∀Z',(∀b,Z b->Z' b)->(∀b,b50 σ π fz b->Z' b)->ARs σ π (cz Z' w) us ps us xs is)(hap:c6k (is++[fz.map (·.1)])=true)(hρ:∀(j:Nat)v,us[j]?=some v->ρc j=v):Rel ⟨w,λb=>∃i∈is,∃id∈i,MB (σ.mem id) (π id) b,λb=>Z b\/b50 σ π fz b,c0f ps,ρc⟩ (λb=>Z b\/b50 σ π fz b) ρc (a02 0 ps xs) ρs w:=by
 unfold b4o at hmi;simp [qB]at hmi;have hAR:=hA (λb=>Z b\/b50 σ π fz b) (λb h=>.inl h) (λb h=>.inr h);have hρ':∀(j:Nat)v,us[j]?=some v->ρc (0+j)=v:=by grind
 obtain⟨hB,hC⟩:=g7i hU h (λb hb=>Or.inl hb) (X:=cx _ ρc _ w) rfl rfl rfl hρ ps 0 us xs is hAR hρ' (λt c m q hm hq=>by let ⟨b,f,e,c',hx⟩:=c5s ps 0 hmi.1 t c m q hm hq;exact c52 ps 0 xs q.2 _ (by omega) rfl (by omega));refine⟨λt=>?_,hB,λid b hb=>?_,λid id' b hne hb hb'=>?_,λb hb=>?_,λb hb=>.inl hb,λb hb=>hb,Ext.refl _ _,λid hp=>⟨g2v ps xs id hp,rfl⟩,h.tabw hU,λb hb=>⟨Nat.lt_of_lt_of_le (h.tab.2 b hb).1 h.ext.size,?_⟩⟩
 .rcases e3z ps 0 xs t with h0|⟨p,_,h1,h2⟩;.rw[h0];trivial
  .rw[hs t (e5l hmi.2 (by omega) h2)];exact g8m hU h rfl rfl rfl ps 0 us xs is hAR hρ' (λ_ h=>h) t
 .let ⟨j,id0,_,hj,hb0⟩:=hC id b hb;let ⟨h1,h2,_⟩:=h.own id0 b hb0;refine⟨?_,h2,.inl ⟨_,qE hj,id0,by simp,hb0⟩⟩;rintro(hz|⟨q,hq,hbq⟩);.exact h1 hz
  .exact h.dist id0 q.1 b (by
    refine b9f hap j is.length [id0] _ id0 q.1 ?_ ?_ (by simp) (mem_map_of_mem hq) ?_;.rw[getElem?_append_left (qD.1 hj).1];omega
    .simp
    .exact Nat.ne_of_lt (qD.1 hj).1) hb0 hbq
 .let ⟨j,i0,e,hj,hb0⟩:=hC id b hb;let ⟨j',i0',e',hj',hb0'⟩:=hC id' b hb';exact h.dist i0 i0' b (by
   refine b9f hap j j' [i0] [i0'] i0 i0' ?_ ?_ (by simp) (by simp) (by omega);.rw[getElem?_append_left (qD.1 hj).1];omega
   .rw[getElem?_append_left (qD.1 hj').1];omega) hb0 hb0'
 .rcases hb with hb|⟨q,hq,hb⟩;.exact h.zlt b hb
  .exact(h.own q.1 b hb).2.1
 .rintro⟨i,_,id,_,hb'⟩;have h1:=(h.own id b hb').2.2;have h2:=h.tab.2 b hb;rcases h1 with h1|h1;.exact h2.2 h1
  omega
end
section
variable {P:Program} {U:Uni}
variable {E:Env} {Z:Nat -> Prop} {π:Nat -> A5} {σ:U.St} {ρ:Nat -> A5} {w:World}
variable {m0 m:Nat} {a b v:U.AV} {ws:O (Nat×U.MC)} {fr:Nat}
def f8l(hU:UOK U){X X':Cx}{c:U.C}{x:U.T c}(hf:U.flat c=true){u:A5}(h:a1p X (inj c x) u):a1p X' (inj c x) u:=by unfold inj at h⊢;cases ha:U.ag c with|true=>rw[ha]at h;let ⟨cs,hu,hr⟩:=h;exact⟨cs,hu,d4n hU hf hr⟩|false=>rw[ha]at h;have hfl:=hU.flat c x hf;cases hl:U.flds c x with|nil=>trivial|cons a r=>cases r with|cons _ _=>trivial|nil=>rw[hl]at h hfl;have hlay:=hU.lay c x;rw[hU.sc c ha,hl]at hlay;cases a<;>first|exact h|(cases hfl)|(simp[a07]at hlay)
def g20(nf:Bool)(X X':Cx):Prop:=X'.w=X.w/\(nf=true->∀b,X.Z b->X'.Z b)
def e3w(hU:UOK U){nf:Bool}{X X':Cx}(hL:g20 nf X X'){c:U.C}{x:U.T c}(hf:nf=false->U.flat c=true){u:A5}(h:a1p X (inj c x) u):a1p X' (inj c x) u:=by cases nf with|true=>exact b0h (a1w hU c x).1 h hL.1 (hL.2 rfl)|false=>exact f8l hU (hf rfl) h
def d9i(hU:UOK U){nf:Bool}{X X':Cx}(hL:g20 nf X X'){e:TypeId}{c:U.C}{l:O (U.T c)}(hf:nf=false->U.flat c=true){u:A5}(h:MR X (.sl e c l) u):MR X' (.sl e c l) u:=by let ⟨css,hO,hr⟩:=h;refine⟨css,by rw[hL.1];omega,hr.mono λr x hh=>?_⟩;cases nf with|true=>rw[hL.1];exact(Rp c).weaken hh λb _ hb hz=>hb (hL.2 rfl b hz)|false=>exact d4n hU (hf rfl) hh
def e3s(hU:UOK U){nf:Bool}{X X':Cx}(hL:g20 nf X X'){t:TypeId}{c:U.C}{x:U.T c}(hf:nf=false->U.flat c=true){u:A5}(h:MR X (.box t (inj c x)) u):MR X' (.box t (inj c x)) u:=by let ⟨b,u1,hv,hM,hr⟩:=h;exact⟨b,u1,hv,by rw[hL.1];omega,e3w hU hL hf hr⟩
def d22(hU:UOK U){nf:Bool}{X X':Cx}(hL:g20 nf X X'):∀(rs:O (RK U.C))(fr:Nat)(xs:Ress U rs)(us:O A5),(nf=false->rs.all e8u=true)->RRs X rs xs us->y7 (λ(q:Nat×U.MC)u=>MR X' q.2 u/\q.2≠.never) (d23 fr rs xs).2 (c59 rs us)/\(∀(p:Nat)q,(d23 fr rs xs).2[p]?=some q->q.1=fr+p)/\((∀(p:Nat)u,(c59 rs us)[p]?=some u->X'.us (fr+p)/\X'.π (fr+p)=u)->y7 (a1p X') (d23 fr rs xs).1 us)
 |[],fr,xs,[],_,_=>⟨trivial,λp q h=>by simp[d23]at h,λ_=>trivial⟩|r::rs,fr,xs,[],_,h=>h.elim|[],fr,xs,_::_,_,h=>h.elim|.v c::rs,fr,(x,xs),u::us,hf,h=>by let ⟨h1,h2,h3⟩:=d22 hU hL rs fr xs us (λe=>by simp_all) h.2;exact⟨h1,h2,λhh=>⟨e3w hU hL (λe=>by have:=hf e;simp [all_cons,qB]at this;exact this.1) h.1,h3 hh⟩⟩|.ls c::rs,fr,(x,xs),u::us,hf,h=>by let ⟨h1,h2,h3⟩:=d22 hU hL rs fr xs us (λe=>by simp_all) h.2;refine⟨h1,h2,λhh=>⟨?_,h3 hh⟩⟩;cases nf with|false=>have:=hf rfl;simp [all_cons,qB]at this;cases this.1|true=>show k9 _ _ _ u x;rw[hL.1];exact k9.weaken h.1 λb _ hb hz=>hb (hL.2 rfl b hz)
 |.ow e c::rs,fr,(x,xs),u::us,hf,h=>by
   obtain⟨h1,h2,h3⟩:=d22 hU hL rs _ xs us (λe=>by simp_all) h.2;have hsl:=d9i hU hL (λe=>by have:=hf e;simp [all_cons,qB]at this;exact this.1) h.1;refine⟨⟨⟨hsl,λh=>by grind⟩,h1⟩,λp q hq=>?_,λhh=>⟨?_,h3 λp u' hu'=>?_⟩⟩;.cases p with|zero=>cases hq;rfl|succ p=>have:=h2 p q hq;omega
   .let ⟨hu,hp⟩:=hh 0 u rfl;let ⟨css,hO,_⟩:=hsl;let ⟨ad,cap,hv,_⟩:=hO.shape;exact⟨hu,hp.symm,by rw[hv];rfl⟩
   .have:=hh (p+1) u' hu';rwa[show fr+(p+1)=fr+1+p by omega]at this|.bo t c::rs,fr,(some x,xs),u::us,hf,h=>by
   obtain⟨h1,h2,h3⟩:=d22 hU hL rs _ xs us (λe=>by simp_all) h.2;have hbx:=e3s hU hL (λe=>by have:=hf e;simp [all_cons,qB]at this;exact this.1) h.1;refine⟨⟨⟨hbx,λh=>by grind⟩,h1⟩,λp q hq=>?_,λhh=>⟨?_,h3 λp u' hu'=>?_⟩⟩;.cases p with|zero=>cases hq;rfl|succ p=>have:=h2 p q hq;omega
   .let ⟨hu,hp⟩:=hh 0 u rfl;let ⟨bk,u1,hv,_⟩:=hbx;exact⟨hu,hp.symm,by rw[hv];rfl⟩
   .have:=hh (p+1) u' hu';rwa[show fr+(p+1)=fr+1+p by omega]at this|.bo t c::rs,fr,(none,xs),u::us,hf,h=>by
   obtain⟨h1,h2,h3⟩:=d22 hU hL rs _ xs us (λe=>by simp_all) h.2;refine⟨⟨⟨trivial,λh=>by grind⟩,h1⟩,λp q hq=>?_,λhh=>⟨h.1,h3 λp u' hu'=>?_⟩⟩;.cases p with|zero=>cases hq;rfl|succ p=>have:=h2 p q hq;omega
   .have:=hh (p+1) u' hu';rwa[show fr+(p+1)=fr+1+p by omega]at this
def f3u(hU:UOK U){X X':Cx}{a:U.AV}(hf:h08 a=true){u:A5}(h:b79 X a u):b79 X' a u:=by cases a<;>first|(cases hf;done)|exact h|(let ⟨cs,hu,hr⟩:=h;exact⟨cs,hu,d4n hU hf hr⟩)
def e2i(g:Nat->Nat):∀(m:O (Nat×Nat))(l:O U.AV)(j:Nat),(∃k,(j,k)∈m/\(j<l.length->(b8h m l)[j]?=some (.ref k)/\(b8h (m.map λq=>(q.1,g q.2)) l)[j]?=some (.ref (g k))))\/((b8h m l)[j]?=l[j]?/\(b8h (m.map λq=>(q.1,g q.2)) l)[j]?=l[j]?)
 |[],l,j=>.inr ⟨rfl,rfl⟩|q::m,l,j=>by
   by_cases hq:q.1=j;.left;subst hq;exact⟨q.2,qI,λhj=>by simp[b8h,b6d,hj]⟩
   .rcases e2i g m l j with⟨k,h1,h2⟩|⟨h1,h2⟩;.left;refine⟨k,qJ _ h1,λhj=>?_⟩;simp [b8h,map_cons];simp_all
    .simp [b8h,map_cons];simp_all
def e40:∀(m:O (Nat×Nat))(l:O U.AV)(j k:Nat),(j,k)∈m->j<l.length->∃k',(b8h m l)[j]?=some (.ref k')
 |q::m,l,j,k,h,hj=>by
   simp [b8h];by_cases e:q.1=j;.exact⟨q.2,by rw[e,getElem?_set_self (by rw[b6d];omega)]⟩
   .rw[getElem?_set_ne e];exact e40 m l j k ((qO.1 h).resolve_left λhh=>e (by grind)) hj
def g5l(hU:UOK U){nf:Bool}{X X':Cx}(hL:g20 nf X X'){t:TypeId}{c:U.C}{x:U.T c}{m:O (Nat×Nat)}(g:Nat->Nat)(hf:nf=false->d0c (.im t c m:PK U.C)=true){u:A5}(hm:∀q∈m,X'.us (g q.2)/\X'.π (g q.2)=X.π q.2)(h:MR X (.box t (.st c (b8h m (U.flds c x)))) u):MR X' (.box t (.st c (b8h (m.map λq=>(q.1,g q.2)) (U.flds c x)))) u:=by
 let ⟨b,u1,hv,hM,css,hu,hlay,hpp,hr⟩:=h;have hat:∀(j:Nat)(a:U.AV),(b8h (m.map λq=>(q.1,g q.2)) (U.flds c x))[j]?=some a->∃a0,(b8h m (U.flds c x))[j]?=some a0/\a07 a=a07 a0/\a03 a=true/\∀u,b79 X a0 u->b79 X' a u:=by
  intro j a ha;have hj:=by have:=(qD.1 ha).1;rwa[b6d]at this
  rcases e2i g m _ j with⟨k,h1,h2⟩|⟨h1,h2⟩;.let ⟨h3,h4⟩:=h2 hj;rw[h4]at ha;cases ha;refine⟨_,h3,rfl,rfl,λu hu=>?_⟩;let ⟨k1,k2⟩:=hm _ h1;let ⟨_,k4,k5⟩:=hu;exact⟨k1,by grind,k5⟩
  .rw[h2]at ha;have hka:=qX.1 (hU.kind c x) a (qE ha);have hpa:a03 a=true:=by cases a<;>first|rfl|cases hka
   refine⟨a,by grind,rfl,hpa,λu hu=>?_⟩;cases nf with|true=>exact a1p.to0 hpa (b0h hka (.of0 hu) hL.1 (hL.2 rfl))|false=>
     have hf:=hf rfl;simp only[d0c,Bool.or_eq_true,qB,any_eq_true]at hf;rcases hf with hf|⟨hl,q,hq,h0⟩;.exact f3u hU (qX.1 (hU.flat c x hf) a (qE ha)) hu
     .have h0:=qC h0;have h3:=congrArg List.length (hU.lay c x);unfold f9n at hl;split at hl;case h_2=>grind
      rename_i hl';rw[hl',List.length_map]at h3
      have:j=0:=by have:j<1:=by rw[h3]at hj;omega
                   omega
      subst this;let ⟨k',hk'⟩:=e40 m _ 0 q.2 (by grind) hj;rw[h1,ha]at hk';cases hk';cases hka
 have hlen:(b8h (m.map λq=>(q.1,g q.2)) (U.flds c x)).length=(b8h m (U.flds c x)).length:=by rw[b6d,b6d]
 refine⟨b,u1,hv,by rw[hL.1];omega,css,hu,?_,?_,?_⟩;.rw[<-hlay];apply ext_getElem?;intro j;rw[getElem?_map,getElem?_map];cases ha:(b8h _ _)[j]?with|some a=>let ⟨a0,h1,h2,_⟩:=hat j a ha;rw[h1];simp[h2]|none=>have:=List.getElem?_eq_none_iff.1 ha;rw[hlen]at this;rw[getElem?_eq_none this]
 .rw[qX];intro a ha;let ⟨j,hj⟩:=getElem?_of_mem ha;exact(hat j a hj).choose_spec.2.2.1
 .refine y7.of_get (by rw[hlen];exact hr.length) λj a s ha hs=>?_;let ⟨a0,h1,_,_,h2⟩:=hat j a ha;let ⟨s',hs',u,hu,hru⟩:=hr.get h1;rw[hs]at hs';cases hs';exact⟨u,hu,h2 u hru⟩
def f7v{m:U.MC}{v:A5}{b:Nat}(h:MB m v b):hdV v=some b:=by cases m<;>first|exact h|exact h.elim
def e83(hU:UOK U){nf:Bool}{X X':Cx}(hL:g20 nf X X'){Xc:Cx}{b:Nat}{all ua:O A5}:∀(ps:O (PK U.C))(k:Nat)(xs:Args U ps)(is:O (O Nat))(os:Outs U ps)(us us':O A5),(nf=false->ps.all d0c=true)->ARs σ π Xc all ps us xs is->OR X ps os us'->(∀(i:Nat)(p:PK U.C),ps[i]?=some p->d4j p=false->us'[i]?=us[i]?)->(∀(i:Nat)u,us'[i]?=some u->ua[k+i]?=some u)->(∀t c m q,.im t c m∈ps->q∈m->X'.us (b+q.2)/\X'.π (b+q.2)=X.π q.2)->y7 (λ(q:Nat×U.MC)u=>MR X' q.2 u/\q.2≠.never/\((u=π q.1/\σ.mem q.1≠.never)\/∃j,q.1=b+k+j/\ua[k+j]?=some u/\∃p,ps[j]?=some p/\d4j p=true)) (b70 b k ps is os) (ioB ps us')
 |[],k,xs,[],os,[],[],_,_,_,_,_,_=>trivial|[],k,xs,is,os,_::_,us',_,h,_,_,_,_=>by cases is<;>exact h.elim|[],k,xs,_::_,os,[],us',_,h,_,_,_,_=>h.elim|[],k,xs,[],os,[],_::_,_,_,h,_,_,_=>h.elim|_::_,k,xs,is,os,[],us',_,h,_,_,_,_=>by cases is<;>exact h.elim|_::_,k,(x,xs),[],os,_::_,us',_,h,_,_,_,_=>h.elim|p::ps,k,(x,xs),i::is,os,u::us,[],hf,h,hO,_,_,_=>by cases p<;>exact hO.elim|p::ps,k,(x,xs),i::is,os,u::us,u'::us',hf,h,hO,hsame,hua,hmu=>by
   have hf':=λe=>by have:=hf e;simpa only[all_cons,qB]using this
   have hrec:∀os',OR X ps os' us'->y7 (λ(q:Nat×U.MC)u=>MR X' q.2 u/\q.2≠.never/\((u=π q.1/\σ.mem q.1≠.never)\/∃j,q.1=b+k+j/\ua[k+j]?=some u/\∃p0,(p::ps)[j]?=some p0/\d4j p0=true)) _ _:=λos' hO'=>by
    have:=e83 hU hL ps _ xs is os' us us' (λe=>(hf' e).2) h.2 hO' (λi p hp hn=>by have:=hsame (i+1) p (by simpa using hp) hn;simpa using this) (λi v hv=>by have:=hua (i+1) v (by simpa using hv);rwa[show k+(i+1)=k+1+i by omega]at this) (λt c m q hm hq=>hmu t c m q (qJ _ hm) hq);refine this.mono λq v⟨h1,h2,h3⟩=>⟨h1,h2,?_⟩;rcases h3 with h3|⟨j,e1,e2,p0,e3,e4⟩;.exact .inl h3
    .exact .inr ⟨j+1,by omega,by rwa[show k+(j+1)=k+1+j by omega],p0,by simpa using e3,e4⟩
   have same:=λhn=>by have:=hsame 0 p rfl hn;simpa using this
   cases p with|v c=>exact hrec os hO|ls c=>exact hrec os hO|rp t c=>exact hrec os hO|ow e c=>exact hrec os hO|cl f cs=>exact hrec os hO|bn f c=>exact hrec os hO|km f t=>exact hrec os hO|vl f t c=>exact hrec os hO|io t c=>obtain⟨o,os⟩:=os;obtain⟨id,b0,hi,hu,hmem,hp⟩:=h.1;subst hi;refine⟨⟨e3s hU hL (λe=>(hf' e).1) hO.1,(λh=>by cases h),.inl ⟨by rw[same rfl];omega,?_⟩⟩,hrec os hO.2⟩;rw[hmem];intro h;cases h|im t c m=>obtain⟨o,os⟩:=os;obtain⟨id,fs,hi,hu,hmem,hp,_⟩:=h.1;subst hi;refine⟨⟨g5l hU hL _ (λe=>(hf' e).1) (λq hq=>hmu t c m q qI hq) hO.1,(λh=>by cases h),.inl ⟨by rw[same rfl];omega,?_⟩⟩,hrec os hO.2⟩;rw[hmem];intro h;cases h|so e c=>obtain⟨o,os⟩:=os;obtain⟨id,hi,hu,hmem⟩:=h.1;subst hi;refine⟨⟨d9i hU hL (λe=>(hf' e).1) hO.1,(λh=>by cases h),.inl ⟨by rw[same rfl];omega,?_⟩⟩,hrec os hO.2⟩;rw[hmem];intro h;cases h|po b0 f e c=>obtain⟨o,os⟩:=os;exact⟨⟨d9i hU hL (λe=>(hf' e).1) hO.1,(λh=>by cases h),.inr ⟨0,by simp,hua 0 u' rfl,_,rfl,rfl⟩⟩,hrec os hO.2⟩
def b0c{Xc:Cx}{b:Nat}{all:O A5}:∀(ps:O (PK U.C))(k:Nat)(xs:Args U ps)(is:O (O Nat))(os:Outs U ps)(us:O A5),ARs σ π Xc all ps us xs is->∀i∈is,∀id∈i,(∃m,(id,m)∈b70 b k ps is os)\/id∈e07 ps is
 |[],k,xs,[],os,[],_,i,hi,_,_=>by grind|[],k,xs,_::_,os,[],h,_,_,_,_=>h.elim|[],k,xs,is,os,_::_,h,_,_,_,_=>by cases is<;>exact h.elim|_::_,k,xs,is,os,[],h,_,_,_,_=>by cases is<;>exact h.elim|_::_,k,(x,xs),[],os,_::_,h,_,_,_,_=>h.elim|p::ps,k,(x,xs),i0::is,os,u::us,h,i,hi,id,hid=>by
   rcases qO.1 hi with e|hi;.subst e;cases p with|v c=>rw[h.1.1]at hid;grind|ls c=>rw[h.1.1]at hid;grind|rp t c=>rw[h.1.1]at hid;grind|cl f cs=>rw[h.1.1]at hid;grind|bn f c=>rw[h.1.1]at hid;grind|km f t=>rw[h.1.1]at hid;grind|vl f t c=>rw[h.1.1]at hid;grind|ow e c=>exact .inr (mem_append_left _ hid)|po b0 f e c=>exact .inr (mem_append_left _ hid)|io t c=>exact .inl ⟨_,mem_append_left _ (mem_map_of_mem hid)⟩|so e c=>exact .inl ⟨_,mem_append_left _ (mem_map_of_mem hid)⟩|im t c m=>exact .inl ⟨_,mem_append_left _ (mem_map_of_mem hid)⟩
   .cases p with|v c=>exact b0c ps _ xs is os us h.2 i hi id hid|ls c=>exact b0c ps _ xs is os us h.2 i hi id hid|rp t c=>exact b0c ps _ xs is os us h.2 i hi id hid|cl f cs=>exact b0c ps _ xs is os us h.2 i hi id hid|bn f c=>exact b0c ps _ xs is os us h.2 i hi id hid|km f t=>exact b0c ps _ xs is os us h.2 i hi id hid|vl f t c=>exact b0c ps _ xs is os us h.2 i hi id hid|ow e c=>exact(b0c ps _ xs is os us h.2 i hi id hid).imp_right λh1=>mem_append_right _ h1|po b0 f e c=>
      let ⟨o,os⟩:=os;rcases b0c ps _ xs is os us h.2 i hi id hid with⟨m,h1⟩|h1;.exact .inl ⟨m,qJ _ h1⟩
      .exact .inr (mem_append_right _ h1)|io t c=>
      let ⟨o,os⟩:=os;rcases b0c ps _ xs is os us h.2 i hi id hid with⟨m,h1⟩|h1;.exact .inl ⟨m,mem_append_right _ h1⟩
      .exact .inr h1|so e c=>
      let ⟨o,os⟩:=os;rcases b0c ps _ xs is os us h.2 i hi id hid with⟨m,h1⟩|h1;.exact .inl ⟨m,mem_append_right _ h1⟩
      .exact .inr h1|im t c m=>
      let ⟨o,os⟩:=os;rcases b0c ps _ xs is os us h.2 i hi id hid with⟨m,h1⟩|h1;.exact .inl ⟨m,mem_append_right _ h1⟩
      .exact .inr h1
def f6m{X:Cx}{vs:O U.AV}{us:O A5}(h:y7 (a1p X) vs us):AVR X (h1s vs) (g6p us):=by match vs,us,h with|[],[],h=>exact⟨[],rfl,trivial⟩|[a],[u],h=>exact AVR.of1 h.1|a::a'::vs,u::u'::us,h=>exact⟨_,rfl,h⟩|[],_::_,h=>exact h.elim|_::_,[],h=>exact h.elim|[a],u::u'::us,h=>exact h.2.elim|a::a'::vs,[u],h=>exact h.2.elim
end
end Go.SX
