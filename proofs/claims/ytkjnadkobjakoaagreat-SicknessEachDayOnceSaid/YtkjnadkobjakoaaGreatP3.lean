/- Texts of the proof, joined. -/
import Derived.Test.YtkjnadkobjakoaaGreatP2
import Derived.RangeFuncNested
import Derived.RangeFuncBox
import Derived.RangeFuncLeaves
set_option linter.unusedVariables false
set_option linter.unusedSimpArgs false
set_option maxRecDepth 100000
namespace Go.SX
open Go Go.PL
section
variable {U:Uni} {P:Program}
theorem c7h {α:Type} (i t:Nat) (a:α) (l:List (Nat×α)):lk t ((i,a)::l)=if i=t then some a else lk t l:=by
 show (bif Nat.beq i t then some a else lk t l)=_
 by_cases h:i=t
 ·subst h;rw [if_pos rfl,show Nat.beq i i=true from Nat.beq_refl i];rfl
 ·rw [if_neg h,show Nat.beq i t=false from by
   cases hb:Nat.beq i t with
   | true=>exact absurd (qC hb) h
   | false=>rfl]
  rfl
theorem d5m {X:Cx} {a:U.AV} {u:Value} (hp:u7 a=true) (h:a18 X a u):b37 X a u:=by cases a<;>first | exact h | cases hp
theorem c76 {X:Cx} {t:TypeId} {c:U.C} {a:U.AV} {v:Value} (hl:U.lay c=[u9 a]) (hp:u7 a=true) (h:MR X (.box t a) v):MR X (.box t (.st c [a])) v:=by
 obtain ⟨b,u,hv,hM,ha⟩:=h
 exact ⟨b,.agg [u.cells.toList].flatten.toArray,hv,by simpa [Value.cells] using hM,_,rfl,hl.symm,by simp [hp],⟨u,rfl,d5m hp ha⟩,trivial⟩
theorem c7o {X:Cx} {t:TypeId} {c:U.C} {a:U.AV} {v:Value} (h:MR X (.box t (.st c [a])) v):MR X (.box t a) v:=by
 obtain ⟨b,u,hv,hM,css,hu,hl,hp,ha⟩:=h
 match css,ha with
 | [s],ha=>
   obtain ⟨u1,h1,h0⟩:=ha.1
   refine ⟨b,u1,hv,?_,.of0 h0⟩
   rw [hu] at hM
   rw [h1]
   simpa [Value.cells] using hM
 | [],ha=>exact ha.elim
 | _::_::_,ha=>exact ha.2.elim
section
variable {E:Env} {Z:Nat -> Prop} {π:Nat -> Value} {σ:U.St} {ρ:Nat -> Value} {w:World}
variable {m0 m:Nat} {a b v:U.AV} {ws:List (Nat×U.MC)} {fr:Nat}
variable {d:Option Tmp} {ty:TypeId} {ps:String} {af:Array Edge} {g:Option (Nat×Bool)} {x y z:Operand} {m0 m:Nat} {a b v:U.AV} {ws:List (Nat×U.MC)} {fr:Nat}
theorem Rel.rebox (h:Rel E Z π σ ρ w) {id:Nat} {t:TypeId} {a a':U.AV} (hm:σ.mem id= .box t a) (hc: ∀X v,MR X (.box t a) v -> MR X (.box t a') v):Rel E Z π (σ.app none .unk [(id,.box t a')]) ρ w:=
 h.set (id:=id) (mc:= .box t a') (d:=none) (a:= .unk) (v':=undef) (fun hh=>by rw [hm] at hh;cases hh) (fun hh=>by cases hh) (Ext.refl _ w) (fun X' hle hw=>hc X' _ (by have:=h.mem id;rw [hm] at this;exact this.le hle fun b _ _=>by rw [hw];rfl)) (fun q hq=>by rw [hm];exact hq) fun _ _=>trivial
theorem d1c {c:U.C} (h:e6z c=true):U.lay c=[none]:=by
 unfold e6z at h
 split at h
 ·assumption
 ·cases h
theorem d5i (hU:UOK U) (h:Rel E Z π σ ρ w) {t:TypeId} (hx:AVR (cx Z π σ w) a (ev ρ x)) (hev:(d8d P t a).Ev σ m0 m v ws):a39 P E σ ρ w ⟨d,.load t x,ty,ps,af,g⟩ v ws:=by
 unfold d8d at hev
 split at hev
 case h_2=>exact hev.elim
 rename_i id
 have hev:(match σ.mem id with
  | .box _ (.st _ [.ref j])=>(match b0e P t (.ref j:U.AV) with | true=>Q.done (.ref j) [] | false=> .fail)
  | _=>(.fail:U.Q)).Ev σ _ m v ws:=hev
 have hm:=h.mem id
 split at hev
 ·rename_i t' c j hmem
  rw [hmem] at hm
  obtain ⟨blk,u,hv,hM,ha⟩:=c7o hm
  split at hev
  ·rename_i hf
   obtain ⟨hm1,rfl,rfl⟩:=hev
   exact b65 hU h (hx.2.1.trans hv) hf ⟨u,ha,hM.ca⟩
  ·exact hev.elim
 ·exact hev.elim
theorem d1u (hU:UOK U) (h:Rel E Z π σ ρ w) {t:TypeId} (hx:AVR (cx Z π σ w) a (ev ρ x)) (hy:AVR (cx Z π σ w) b (ev ρ y)) (hev:(d16 P t a b).Ev σ m0 m v ws):a39 P E σ ρ w ⟨d,.store t x y,ty,ps,af,g⟩ v ws:=by
 unfold d16 at hev
 split at hev
 case h_2=>exact hev.elim
 rename_i id k
 have hev:(match σ.mem id with
  | .box t' (.st c [.ref _])=>(match b0e P t (.ref k:U.AV)&&e6z c with | true=>Q.done .undef [(id,.box t' (.st c [.ref k]))] | false=> .fail)
  | _=>(.fail:U.Q)).Ev σ _ m v ws:=hev
 split at hev
 ·rename_i t' c j hmem
  split at hev
  ·rename_i hf
   simp only [qB] at hf
   have hl:=d1c hf.2
   obtain ⟨hm1,rfl,rfl⟩:=hev
   have h1:=h.rebox hmem fun X v hh=>c7o hh
   generalize hs1:σ.app none .unk [(id,.box t' (.ref j))]=σ1 at h1
   have hmem1:σ1.mem id= .box t' (.ref j):=by rw [<- hs1];exact b31
   have hus: ∀i,b39 σ i -> b39 σ1 i:=fun i hi=>by
    unfold b39
    by_cases e:i=id
    ·rw [e,hmem1];intro hh;cases hh
    ·rw [<- hs1,m5,a45 e];exact hi
   have hm:=h1.mem id
   rw [hmem1] at hm
   obtain ⟨blk,u,hv,hM,ha⟩:=hm
   refine y9.mono (b8a (P:=P) (d:=d) (ty:=ty) (ps:=ps) (af:=af) (g:=g) (x:=x) (y:=y) hU h1 (c:=U.c0) (p:=[]) hmem1 (.inl rfl) trivial hf.1 rfl rfl (b:= .ref k) ⟨hus k hy.1,hy.2⟩ rfl (ad:=⟨blk,0,none⟩) (by rw [hv];rfl) ?_ (hus id hx.1)) fun u w' ⟨Z',π',hR⟩=>⟨Z',π',?_⟩
   ·rw [hx.2.1]
    show π id= .pointer (some (Addr.add _ 0))
    rw [hv];rfl
   ·refine (hR.rebox (id:=id) (t:=t') (a:= .ref k) (a':= .st c [.ref k]) b31 fun X v hh=>c76 (by rw [hl];rfl) rfl hh).congrE (fun t=> ?_) fun i=> ?_
    ·rw [p9,p9,p9,<- hs1,p9];rfl
    ·by_cases e:i=id
     ·rw [e,m5,b36,m5,b36]
     ·rw [m5,a45 e,m5,a45 e,m5,a45 e,<- hs1,m5,a45 e]
  ·exact hev.elim
 ·exact hev.elim
theorem d13 (hU:UOK U) (h:Rel E Z π σ ρ w) {t:TypeId} (hev:(d24 P fr t:U.Q).Ev σ m0 m v ws):a39 P E σ ρ w ⟨d,.alloc t,ty,ps,af,g⟩ v ws:=by
 unfold d24 at hev
 split at hev
 case h_2=>exact hev.elim
 rename_i e cl ht hcl hz
 split at hev
 case h_2=>exact hev.elim
 rename_i c hc hl
 have hl:=d1c hl
 have hev:(match σ.mem fr with | .never=>Q.rdM (fr+1) (fun (q:U.MC)=>match q with | .never=>Q.done (.ref fr) [(fr,.box t (.st cl [.ref (fr+1)])),(fr+1,.sl e c [])] | _=> .fail) | _=>(.fail:U.Q)).Ev σ _ m v ws:=hev
 split at hev
 case h_2=>exact hev.elim
 rename_i hn
 have hev:(match σ.mem (fr+1) with | .never=>Q.done (.ref fr) [(fr,.box t (.st cl [.ref (fr+1)])),(fr+1,.sl e c [])] | _=>(.fail:U.Q)).Ev σ _ m v ws:=hev
 split at hev
 case h_2=>exact hev.elim
 rename_i hn1
 obtain ⟨hm1,rfl,rfl⟩:=hev
 have hg:a39 P E σ ρ w ⟨d,.alloc t,ty,ps,af,g⟩ (.ref fr) [(fr,.box t (.nils:U.AV))]:=by
  unfold b3o at hz
  split at hz
  case h_2=>cases hz
  rename_i i hi
  split at hz
  case h_2=>cases hz
  rename_i zv hzv
  refine a9a h (obj:= .cells zv.cells t) (v':= .pointer (some ⟨w.heap.size,0,none⟩)) hn ?_ (fun h=>by cases h) rfl rfl (fun b hb=>hb) ?_
  ·simp [execOp,Instr.alloc,zeroValue,typeInfo,hi,hzv,newVar,newRow]
  ·rintro X' hle hw hZ
   obtain ⟨u,hu,hr⟩:=b53 hU (X:=X') _ _ _ _ hz
   refine ⟨w.heap.size,u,rfl,?_,hr⟩
   rw [hw,hu]
   have:=Mb.alloc w t zv.cells.toList
   simpa using this
 refine y9.mono hg fun u w' ⟨Z',π',hR⟩=> ?_
 have h2:=hR.rebox (id:=fr) (t:=t) (a:= .nils) (a':= .st cl [.nils]) b31 fun X v hh=>c76 (by rw [hl];rfl) rfl hh
 have hF:b38 P (fr+1) [{name:= "",type:=t,offset:=0,embedded:=false,tag:= "",pkgPath:= "",byteOffset:=0}] [(.nils:U.AV)]=([.ref (fr+1)],[(fr+1,.sl e c [])]):=by
  simp only [b38,ht,hc]
 obtain ⟨π2,h3⟩:=h2.openB (P:=P) (k:=fr+1) (fs:=[{name:= "",type:=t,offset:=0,embedded:=false,tag:= "",pkgPath:= "",byteOffset:=0}]) b31 fun q hq=>by
  rw [hF] at hq
  obtain rfl:=qF.1 hq
  rw [m5,a45 (by simp),m5,a45 (by simp)]
  exact hn1
 rw [hF] at h3
 refine ⟨Z',π2,h3.congrE (fun s=> ?_) fun i=> ?_⟩
 ·rw [p9,p9,p9,p9];rfl
 ·rw [m5,m5,m5,m5]
  by_cases e1:i=fr
  ·subst e1;rw [c7h,if_pos rfl]
  ·rw [c7h,if_neg (Ne.symm e1),a45 e1,a45 e1]
theorem e0r (h:Rel E Z π σ ρ w) {t:TypeId} (hx:AVR (cx Z π σ w) a (ev ρ x)) (hev:(f0n P fr t a).Ev σ m0 m v ws):a39 P E σ ρ w ⟨d,.box t x,ty,ps,af,g⟩ v ws:=by
 unfold f0n at hev
 split at hev
 case h_2=>exact hev.elim
 rename_i k cl hcl
 split at hev
 case h_2=>exact hev.elim
 rename_i hf
 simp only [qB] at hf
 have hl:=d1c hf.2
 have hev:(match σ.mem fr with | .never=>Q.done (.ref fr) [(fr,.box t (.st cl [.ref k]))] | _=>(.fail:U.Q)).Ev σ _ m v ws:=hev
 split at hev
 case h_2=>exact hev.elim
 rename_i hn
 obtain ⟨hm1,rfl,rfl⟩:=hev
 have hg:a39 P E σ ρ w ⟨d,.box t x,ty,ps,af,g⟩ (.ref fr) [(fr,.box t (.ref k:U.AV))]:=by
  have hf1:=hf.1
  unfold b0e at hf1
  simp only [qB] at hf1
  have hx1:=a6k (a96 hf1.1.1) hx
  refine a9a h (obj:= .cells (ev ρ x).cells t) (v':= .pointer (some ⟨w.heap.size,0,none⟩)) hn (by simp [execOp,Instr.box,newVar,newRow]) (fun h=>by cases h) rfl rfl (fun b hb=>hb) ?_
  rintro X' hle hw hZ
  refine ⟨w.heap.size,ev ρ x,rfl,?_,hx1.le hle⟩
  rw [hw]
  have:=Mb.alloc w t (ev ρ x).cells.toList
  simpa using this
 refine y9.mono hg fun u w' ⟨Z',π',hR⟩=>⟨Z',π',?_⟩
 refine (hR.rebox (id:=fr) (t:=t) (a:= .ref k) (a':= .st cl [.ref k]) b31 fun X v hh=>c76 (by rw [hl];rfl) rfl hh).congrE (fun s=> ?_) fun i=> ?_
 ·rw [p9,p9,p9];rfl
 ·by_cases e1:i=fr
  ·rw [e1,m5,b36,m5,b36]
  ·rw [m5,a45 e1,m5,a45 e1,m5,a45 e1]
theorem Rel.fzN (h:Rel E Z π σ ρ w) (N:Nat -> Prop) (hN: ∀b,N b -> b<w.heap.size /\ (E.Z b \/ E.G b \/ E.w0.heap.size <= b) /\ ∀id,¬MB (σ.mem id) (π id) b):Rel E (fun b=>Z b \/ N b) π σ ρ w:=by
 have hle:(cx Z π σ w).Le (cx (fun b=>Z b \/ N b) π σ w):=⟨fun b hb=> .inl hb,Ext.refl _ _,fun _ hh=>⟨hh,rfl⟩⟩
 refine ⟨fun t=>AVR.le hle (h.slot t),fun id=>MR.le hle (h.mem id) fun _ _ _=>rfl,fun id b hb=> ?_,h.dist,fun b hb=>hb.elim (h.zlt b) fun hn=>(hN b hn).1,fun b hb=>hb.elim (h.zin b) fun hn=>(hN b hn).2.1,fun b hb=> .inl (h.zout b hb),h.ext,h.pin,h.tab⟩
 obtain ⟨h1,h2,h3⟩:=h.own id b hb
 exact ⟨fun hz=>hz.elim h1 fun hn=>(hN b hn).2.2 id hb,h2,h3⟩
theorem d1b (hU:UOK U) (h:Rel E Z π σ ρ w) {t:TypeId} (hx:AVR (cx Z π σ w) a (ev ρ x)) (hy:AVR (cx Z π σ w) b (ev ρ y)) (hev:(d2a P t a b).Ev σ m0 m v ws):a39 P E σ ρ w ⟨d,.store t x y,ty,ps,af,g⟩ v ws:=by
 unfold d2a at hev
 split at hev
 case h_2=>exact hev.elim
 rename_i id k
 have hev:(match σ.mem k with
  | .box _ a=>(match c6q a&& !(Nat.beq id k)&&b0e P t (.rp a:U.AV) with
    | true=>Q.rdM id fun m=>(match m with
      | .box t' b0=>(match Nat.beq (asz b0) 1&&(a6c b0==false)&&a8j b0 with
        | true=> .done .undef [(id,.box t' (.rp a)),(k,.dead)]
        | false=> .fail)
      | _=> .fail)
    | false=> .fail)
  | _=>(.fail:U.Q)).Ev σ _ m v ws:=hev
 split at hev
 case h_2=>exact hev.elim
 rename_i t2 a0 hk
 split at hev
 case h_2=>exact hev.elim
 rename_i hc
 simp only [qB,Bool.not_eq_true'] at hc
 have hne:id≠k:=Nat.ne_of_beq_eq_false hc.1.2
 have hev:(match σ.mem id with
    | .box t' b0=>(match Nat.beq (asz b0) 1&&(a6c b0==false)&&a8j b0 with
      | true=>Q.done .undef [(id,.box t' (.rp a0)),(k,.dead)]
      | false=> .fail)
    | _=>(.fail:U.Q)).Ev σ _ m v ws:=hev
 split at hev
 case h_2=>exact hev.elim
 rename_i t' b0 hid
 split at hev
 case h_2=>exact hev.elim
 rename_i hs
 obtain ⟨_,rfl,rfl⟩:=hev
 have hm:=h.mem k
 have hown:=h.own k
 have hdist:=h.dist k
 rw [hk] at hm hown
 obtain ⟨blk,u,hv,hM,ha⟩:=hm
 have hmb: ∀b,MB (.box t2 a0:U.MC) (π k) b↔b=blk:=fun b=>by
  rw [hv];exact ⟨fun hh=>(qH hh).symm,fun hh=>by rw [hh];rfl⟩
 have hmk:MB (σ.mem k) (π k) blk:=by rw [hk];exact (hmb blk).2 rfl
 obtain ⟨o1,o2,o3⟩:=hown blk ((hmb blk).2 rfl)
 have h1:Rel E Z π (σ.app none .unk [(k,.dead)]) ρ w:=h.set (id:=k) (mc:= .dead) (w':=w) (d:=none) (a:= .unk) (v':=undef) (fun hh=>by rw [hk] at hh;cases hh) (fun hh=>by cases hh) (Ext.refl _ w) (fun _ _ _=>trivial) (fun b hb=>hb.elim) fun _ _=>trivial
 have h2:=Rel.fzN h1 (fun b=>b=blk) fun b hb=>by
  subst hb
  refine ⟨o2,.inr o3,fun i hi=> ?_⟩
  rw [m5] at hi
  by_cases e:i=k
  ·rw [e,b36] at hi;exact hi
  ·rw [a45 e] at hi
   exact hdist i b (Ne.symm e) hmk hi
 generalize hs1:σ.app none .unk [(k,(.dead:U.MC))]=σ1 at h2
 have hus: ∀i,b39 σ i -> b39 σ1 i:=fun i hi=>by
  unfold b39
  by_cases e:i=k
  ·rw [e,<- hs1,b31];intro hh;cases hh
  ·rw [<- hs1,m5,a45 e];exact hi
 have hmem1:σ1.mem id= .box t' b0:=by rw [<- hs1,m5,a45 hne];exact hid
 have hr:a18 (cx (fun b=>Z b \/ b=blk) π σ1 w) (.rp a0) (ev ρ y):=by
  have hf:b4v a0=true:=by
   have:=hc.1.1
   cases a0<;>first | rfl | cases this
  refine ⟨⟨blk,0,none⟩,u.cells.toList,hy.2.1.trans hv,o2,fun hn=>hn (.inr rfl),hM.ca,?_⟩
  exact (b1i (.inl hf) ha).weaken fun b _ hn hz=>hn (.inl hz)
 have hm2:=h2.mem id
 rw [hmem1] at hm2
 obtain ⟨blk2,u2,hv2,hM2,ha2⟩:=hm2
 refine y9.mono (b8a (P:=P) (d:=d) (ty:=ty) (ps:=ps) (af:=af) (g:=g) (x:=x) (y:=y) hU h2 (c:=U.c0) (p:=[]) hmem1 (.inl rfl) trivial hc.2 rfl ?_ (b:= .rp a0) hr rfl (ad:=⟨blk2,0,none⟩) (by rw [hv2];rfl) ?_ (hus id hx.1)) fun u w' ⟨Z',π',hR⟩=>⟨Z',π',hR.congrE (fun s=> ?_) fun i=> ?_⟩
 ·simp only [qB] at hs⊢
  exact hs
 ·show ev ρ x=_
  rw [hx.2.1]
  show π id= .pointer (some (Addr.add _ 0))
  rw [hv2];rfl
 ·rw [p9,p9,<- hs1,p9];rfl
 ·rw [m5,m5]
  by_cases e1:i=id
  ·subst e1;rw [c7h,if_pos rfl,b36]
  ·rw [c7h,if_neg (Ne.symm e1),a45 e1,<- hs1,m5]
end
end
end Go.SX
namespace Go.SX
open Go Go.PL
section
variable {P:Program} {U:Uni}
variable {E:Env} {Z:Nat -> Prop} {π:Nat -> Value} {σ:U.St} {ρ:Nat -> Value} {w:World}
variable {m0 m:Nat} {a b v:U.AV} {ws:List (Nat×U.MC)} {fr:Nat}
def OKΦ (P:Program) (Φ:Phi U):Prop:= ∀f as fe,Φ f as=some fe -> c2k P f fe
theorem c6x {α:Type} {a:Array α} {x:α} (h:a.toList=[x]):a= #[x]:=by apply Array.ext';simpa using h
theorem c7s {α:Type} {a:Array α} {x y:α} (h:a.toList=[x,y]):a= #[x,y]:=by apply Array.ext';simpa using h
theorem b5a (hU:UOK U) {Φ:Phi U} (hΦ:OKΦ P Φ) (h:Rel E Z π σ ρ w) {o:Oper} (hev:(opQ P Φ fr o.op).Ev σ m0 m v ws):a39 P E σ ρ w o v ws:=by
 obtain ⟨d,op,ty,ps,af,g⟩:=o
 cases op<;>try exact hev.elim
 case move x=>exact c7x h (.inl rfl) hev
 case assign x=>exact c7x h (.inr rfl) hev
 case pick c x y=>
  obtain ⟨e,m1,he,hev⟩:=q9 h hev
  obtain ⟨p,m2,hp,hev⟩:=q9 h hev
  obtain ⟨q,m3,hq,hev⟩:=q9 h hev
  unfold f4b at hev
  split at hev
  ·obtain ⟨hm,rfl,rfl⟩:=hev;exact e0g h he hp hq
  ·exact hev.elim
 case alloc t=>exact d79 hU h hev
 case box t x=>
  obtain ⟨a,m1,ha,hev⟩:=q9 h hev
  exact e4g h ha hev
 case build t psr=>
  obtain ⟨as,m1,has,hev⟩:=b98 h hev
  split at hev
  ·exact d2j hU h has hev
  ·exact d6r hU h has hev
 case buildSlice t n psr=>
  obtain ⟨as,m1,has,hev⟩:=b98 h hev
  exact c3m hU h has hev
 case load t x=>
  obtain ⟨a,m1,ha,hev⟩:=q9 h hev
  exact d9j hU h ha hev
 case store t x y=>
  obtain ⟨a,m1,ha,hev⟩:=q9 h hev
  obtain ⟨b,m2,hb,hev⟩:=q9 h hev
  exact d6u hU h ha hb hev
 case range t x=>
  obtain ⟨a,m1,ha,hev⟩:=q9 h hev
  exact d5y h ha hev
 case next x b=>
  cases b
  ·obtain ⟨a,m1,ha,hev⟩:=q9 h hev
   exact d78 h ha hev
  ·obtain ⟨a,m1,ha,hev⟩:=q9 h hev
   exact e0y h ha hev
 case makeInterface t x=>
  obtain ⟨a,m1,ha,hev⟩:=q9 h hev
  split at hev
  ·rename_i e id ht
   obtain ⟨hm,rfl,rfl⟩:=hev
   exact d9 h (v:= .iface t (ev ρ x)) (by simp [YV,execOp,Instr.makeInterface,underlying,ht]) ⟨_,rfl,ha⟩
  ·exact hev.elim
 case nilCheck x=>
  obtain ⟨a,m1,ha,hev⟩:=q9 h hev
  exact e5b h ha hev
 case binOp op t x y t'=>
  obtain ⟨a,m1,ha,hev⟩:=q9 h hev
  obtain ⟨b,m2,hb,hev⟩:=q9 h hev
  split at hev
  ·rename_i hv;exact e3r hU h hv ha hb hev
  ·exact e5z h ha hb hev
 case unOp op t x=>
  obtain ⟨a,m1,ha,hev⟩:=q9 h hev
  exact e9a h ha hev
 case convert s t x=>
  obtain ⟨a,m1,ha,hev⟩:=q9 h hev
  split at hev
  ·rename_i hb;exact e2x hU h hb ha hev
  ·exact d82 h ha hev
 case makeFunc fn first cs=>
  simp only [opQ] at hev
  split at hev
  ·rename_i f hf
   have:first= #[]:=by apply Array.ext';simpa using hf
   subst this
   exact c7r h hev
  ·rename_i f x0 hf
   split at hev
   ·rename_i hcs
    have e1:first= #[x0]:=by apply Array.ext';simpa using hf
    have e2:cs= #[]:=by apply Array.ext';simpa using hcs
    subst e1;subst e2
    obtain ⟨a,m1,ha,hev⟩:=q9 h hev
    split at hev
    ·rename_i c y
     obtain ⟨hm,rfl,rfl⟩:=hev
     exact d9 h (v:= .func (.func f) #[ev ρ x0] #[]) (by simp [YV,execOp,Instr.makeFunc]) ⟨ev ρ x0,rfl,ha⟩
    ·exact hev.elim
   ·exact hev.elim
  ·exact hev.elim
 case slice t x lo hi mx=>
  cases mx with
  | some mx=>
    cases hi with
    | none=>exact hev.elim
    | some hi=>
      obtain ⟨a,m1,ha,hev⟩:=q9 h hev
      exact d1j hU h ha hev
  | none=>
    obtain ⟨a,m1,ha,hev⟩:=q9 h hev
    exact d68 hU h ha hev
 case makeSlice t x y=>
  obtain ⟨a,m1,ha,hev⟩:=q9 h hev
  obtain ⟨b,m2,hb,hev⟩:=q9 h hev
  exact c4e hU h ha hb hev
 case makeMap t r=>
  cases r with
  | some _=>exact hev.elim
  | none=>exact c8n h hev
 case lookup t x y ok=>
  obtain ⟨a,m1,ha,hev⟩:=q9 h hev
  obtain ⟨b,m2,hb,hev⟩:=q9 h hev
  exact d1a h ha hb hev
 case mapUpdate t x y z=>
  obtain ⟨a,m1,ha,hev⟩:=q9 h hev
  obtain ⟨b,m2,hb,hev⟩:=q9 h hev
  obtain ⟨c,m3,hc,hev⟩:=q9 h hev
  exact c47 h ha hb hc hev
 case fieldAddr s x f=>
  obtain ⟨a,m1,ha,hev⟩:=q9 h hev
  split at hev
  ·exact d2g h ha hev
  ·exact d5o hU h ha hev
 case field s x f=>
  obtain ⟨a,m1,ha,hev⟩:=q9 h hev
  exact d63 hU h ha hev
 case indexAddr t x y=>
  obtain ⟨a,m1,ha,hev⟩:=q9 h hev
  obtain ⟨b,m2,hb,hev⟩:=q9 h hev
  exact c4f hU h ha hb hev
 case index t x y=>
  obtain ⟨a,m1,ha,hev⟩:=q9 h hev
  obtain ⟨b,m2,hb,hev⟩:=q9 h hev
  exact d6i hU h ha hb hev
 case extract x i=>
  obtain ⟨a,m1,ha,hev⟩:=q9 h hev
  exact c95 h ha hev
 case call c=>
  obtain ⟨cal,args,tys⟩:=c
  cases cal with
  | invoke _ _=>exact hev.elim
  | value x=>
    obtain ⟨a,m1,ha,hev⟩:=q9 h hev
    split at hev
    ·rename_i f cs
     obtain ⟨vs,hv,hcs⟩:=ha
     obtain ⟨as,m2,has,hev⟩:=b98 h hev
     exact c89 (fs:=[]) hU hΦ h hv hcs has hev
    ·rename_i f c y
     obtain ⟨r,hv,hr⟩:=ha
     obtain ⟨as,m2,has,hev⟩:=b98 h hev
     exact c89 (fs:=[r]) (cs:=[]) (vs:=[]) (as:= .val c y::as) hU hΦ h hv trivial ⟨AVR.of1 hr,has⟩ (by rw [List.append_nil];exact hev)
    ·exact hev.elim
  | builtin bi=>
    cases bi<;>try exact hev.elim
    case append=>
     simp only [opQ] at hev
     split at hev
     ·rename_i x y t t' hx ht
      split at hev
      ·rename_i hb
       have:=qC hb
       subst this
       obtain ⟨a,m1,ha,hev⟩:=q9 h hev
       obtain ⟨b,m2,hb,hev⟩:=q9 h hev
       rw [c7s hx,c7s ht]
       exact e3a hU h ha hb hev
      ·exact hev.elim
     ·exact hev.elim
    case clear=>
     simp only [opQ] at hev
     split at hev
     ·rename_i x t hx ht
      obtain ⟨a,m1,ha,hev⟩:=q9 h hev
      rw [c6x hx,c6x ht]
      exact d6h hU h ha hev
     ·exact hev.elim
    case len=>
     simp only [opQ] at hev
     split at hev
     ·rename_i x t hx ht
      obtain ⟨a,m1,ha,hev⟩:=q9 h hev
      rw [c6x hx,c6x ht]
      exact e4l h ha hev
     ·exact hev.elim
    case max=>
     simp only [opQ] at hev
     split at hev
     ·rename_i x y hx
      obtain ⟨a,m1,ha,hev⟩:=q9 h hev
      obtain ⟨b,m2,hb,hev⟩:=q9 h hev
      rw [c7s hx]
      exact d8s (mx:=true) h ha hb hev
     ·exact hev.elim
    case min=>
     simp only [opQ] at hev
     split at hev
     ·rename_i x y hx
      obtain ⟨a,m1,ha,hev⟩:=q9 h hev
      obtain ⟨b,m2,hb,hev⟩:=q9 h hev
      rw [c7s hx]
      exact d8s (mx:=false) h ha hb hev
     ·exact hev.elim
theorem e4p (hU:UOK U) {Φ:Phi U} (hΦ:OKΦ P Φ) (h:Rel E Z π σ ρ w) {o:Oper} {sp:List Nat} {i:Nat} (hev:(opX P Φ sp i fr o.op).Ev σ m0 m v ws):a39 P E σ ρ w o v ws:=by
 unfold opX at hev
 split at hev
 ·exact b5a hU hΦ h hev
 ·split at hev
  ·rename_i t x lo hi hop
   obtain ⟨d,op,ty,ps,af,g⟩:=o
   have hop:op= .slice t x lo hi none:=hop
   subst hop
   split at hev
   ·obtain ⟨a,m1,ha,hev⟩:=q9 h hev
    exact d9i h ha hev
   ·obtain ⟨a,m1,ha,hev⟩:=q9 h hev
    exact d9x h ha hev
   ·exact b5a hU hΦ h hev
  ·rename_i t x y hop
   obtain ⟨d,op,ty,ps,af,g⟩:=o
   have hop:op= .store t x y:=hop
   subst hop
   split at hev
   ·obtain ⟨a,m1,ha,hev⟩:=q9 h hev
    obtain ⟨b,m2,hb,hev⟩:=q9 h hev
    exact d1m hU h ha hb hev
   ·split at hev
    ·obtain ⟨a,m1,ha,hev⟩:=q9 h hev
     obtain ⟨b,m2,hb,hev⟩:=q9 h hev
     exact d1u hU h ha hb hev
    ·split at hev
     ·obtain ⟨a,m1,ha,hev⟩:=q9 h hev
      obtain ⟨b,m2,hb,hev⟩:=q9 h hev
      exact d1b hU h ha hb hev
     ·exact b5a hU hΦ h hev
  ·rename_i t x hop
   obtain ⟨d,op,ty,ps,af,g⟩:=o
   have hop:op= .load t x:=hop
   subst hop
   split at hev
   ·obtain ⟨a,m1,ha,hev⟩:=q9 h hev
    exact d7f hU h ha hev
   ·split at hev
    ·obtain ⟨a,m1,ha,hev⟩:=q9 h hev
     exact d5i hU h ha hev
    ·exact b5a hU hΦ h hev
  ·rename_i t hop
   obtain ⟨d,op,ty,ps,af,g⟩:=o
   have hop:op= .alloc t:=hop
   subst hop
   split at hev
   ·exact d13 hU h hev
   ·exact b5a hU hΦ h hev
  ·rename_i t x hop
   obtain ⟨d,op,ty,ps,af,g⟩:=o
   have hop:op= .box t x:=hop
   subst hop
   split at hev
   ·obtain ⟨a,m1,ha,hev⟩:=q9 h hev
    exact e0r h ha hev
   ·exact b5a hU hΦ h hev
  ·exact b5a hU hΦ h hev
def f4u (σ σ':U.St) (m:Nat):Prop:=(∀t,m.testBit (2*t)=true -> σ'.slot t=σ.slot t) /\ ∀id,m.testBit (2*id+1)=true -> σ'.mem id=σ.mem id
theorem a6i (m k i:Nat):(m ||| 2^k).testBit i=(m.testBit i||decide (i=k)):=by
 rw [Nat.testBit_or,Nat.testBit_two_pow]
 congr 1
 simp [eq_comm]
theorem d8k {q:U.Q}: ∀{m0 m:Nat} {v:U.AV} {ws:List (Nat×U.MC)},q.Ev σ m0 m v ws -> ∀i,m0.testBit i=true -> m.testBit i=true:=by
 induction q with
 | rdT t k ih=>intro m0 m v ws h i hi;exact ih _ h.2 i (by rw [a6i,hi];rfl)
 | rdM id k ih=>intro m0 m v ws h i hi;exact ih _ h i (by rw [a6i,hi];rfl)
 | opt o k ih=>intro m0 m v ws h i hi;obtain ⟨b,_,h⟩:=h;exact ih b h i hi
 | cas o n k ih0 ih=>
   intro m0 m v ws h i hi
   rcases h with ⟨_,h⟩ | ⟨b,_,h⟩
   ·exact ih0 h i hi
   ·exact ih b h i hi
 | done v' ws'=>intro m0 m v ws h i hi;rw [h.1];exact hi
 | fail=>intro m0 m v ws h;exact h.elim
theorem d2w {σ':U.St} {q:U.Q}: ∀{m0 m:Nat} {v:U.AV} {ws:List (Nat×U.MC)},q.Ev σ m0 m v ws -> f4u σ σ' m -> q.Ev σ' m0 m v ws:=by
 induction q with
 | rdT t k ih=>
   intro m0 m v ws h ha
   have hb:=d8k h.2 (2*t) (by rw [a6i];simp)
   have e:=ha.1 t hb
   refine ⟨by rw [e];exact h.1,?_⟩
   rw [e];exact ih _ h.2 ha
 | rdM id k ih=>
   intro m0 m v ws h ha
   have h:(k (σ.mem id)).Ev σ (m0 ||| 2^(2*id+1)) m v ws:=h
   have hb:=d8k h (2*id+1) (by rw [a6i];simp)
   have e:=ha.2 id hb
   show (k (σ'.mem id)).Ev σ' _ m v ws
   rw [e];exact ih _ h ha
 | opt o k ih=>intro m0 m v ws h ha;obtain ⟨b,hb,h⟩:=h;exact ⟨b,hb,ih b h ha⟩
 | cas o n k ih0 ih=>
   intro m0 m v ws h ha
   rcases h with ⟨hb,h⟩ | ⟨b,hb,h⟩
   ·exact .inl ⟨hb,ih0 h ha⟩
   ·exact .inr ⟨b,hb,ih b h ha⟩
 | done v' ws'=>intro m0 m v ws h ha;exact h
 | fail=>intro m0 m v ws h;exact h.elim
theorem c1h {R:Type} {q:U.Q}: ∀{m0:Nat} {K:Nat -> U.AV -> List (Nat×U.MC) -> Option R} {r:R},q.eval σ m0 K=some r -> ∃m v ws,q.Ev σ m0 m v ws /\ K m v ws=some r:=by
 induction q with
 | rdT t k ih=>
   intro m0 K r h
   simp only [Q.eval] at h
   cases hs:σ.slot t<;>rw [hs] at h<;>first
    | (cases h;done)
    | (obtain ⟨m,v,ws,h1,h2⟩:=ih _ h
       exact ⟨m,v,ws,⟨(by rw [hs];intro e;cases e),(by rw [hs];exact h1)⟩,h2⟩)
 | rdM id k ih=>intro m0 K r h;exact ih _ h
 | opt o k ih=>
   intro m0 K r h
   obtain ⟨b,hb,h⟩:=f2d (show o.bind _=some r from h)
   obtain ⟨m,v,ws,h1,h2⟩:=ih b h
   exact ⟨m,v,ws,⟨b,hb,h1⟩,h2⟩
 | cas o n k ih0 ih=>
   intro m0 K r h
   have h:optC o (n.eval σ m0 K) (fun b=>(k b).eval σ m0 K)=some r:=h
   cases ho:o with
   | none=>
     rw [ho] at h
     obtain ⟨m,v,ws,h1,h2⟩:=ih0 h
     exact ⟨m,v,ws,.inl ⟨rfl,h1⟩,h2⟩
   | some b=>
     rw [ho] at h
     obtain ⟨m,v,ws,h1,h2⟩:=ih b h
     exact ⟨m,v,ws,.inr ⟨b,rfl,h1⟩,h2⟩
 | done v ws=>intro m0 K r h;exact ⟨m0,v,ws,⟨rfl,rfl,rfl⟩,h⟩
 | fail=>intro m0 K r h;cases h
end
end Go.SX
namespace Go.SX
open Go Go.PL
section
variable {P:Program} {U:Uni} {Φ:Phi U}
structure En (U:Uni) where
 d:Option Tmp
 m:Nat
 v:U.AV
 ws:List (Nat×U.MC)
def c3u (P:Program) (Φ:Phi U) (C:RegC) (i:Nat) (o:Oper) (σ:U.St) (e:En U):Prop:=
 e.d=o.dst /\ ((gq C.ops o (opX P Φ C.sp i (C.base+16*i) o.op)).Ev σ 0 e.m e.v e.ws \/ (gq C.ops o (d90 o.op)).Ev σ 0 e.m e.v e.ws)
def Tr (P:Program) (Φ:Phi U) (C:RegC):Nat -> List Oper -> U.St -> List (En U) -> U.St -> Prop
 | _,[],σ,[],σ'=>σ'=σ
 | k,o::os,σ,e::es,σ'=>c3u P Φ C k o σ e /\ Tr P Φ C (k+1) os (σ.app e.d e.v e.ws) es σ'
 | _,_,_,_,_=>False
theorem Tr.append {C:RegC}: ∀{k:Nat} {os os':List Oper} {σ σ1 σ2:U.St} {es es':List (En U)},Tr P Φ C k os σ es σ1 -> Tr P Φ C (k+os.length) os' σ1 es' σ2 -> Tr P Φ C k (os++os') σ (es++es') σ2
 | k,[],os',σ,σ1,σ2,[],es',h,h'=>by have h:σ1=σ:=h;subst h;simpa using h'
 | k,o::os,os',σ,σ1,σ2,e::es,es',h,h'=>⟨h.1,Tr.append h.2 (by rwa [show k+1+os.length=k+(o::os).length by simp;omega])⟩
 | _,[],_,_,_,_,_::_,_,h,_=>h.elim
 | _,_::_,_,_,_,_,[],_,h,_=>h.elim
theorem Tr.len {C:RegC}: ∀{k:Nat} {os:List Oper} {σ σ1:U.St} {es:List (En U)},Tr P Φ C k os σ es σ1 -> es.length=os.length
 | k,[],σ,σ1,[],h=>rfl
 | k,o::os,σ,σ1,e::es,h=>by simp [Tr.len h.2]
 | _,[],_,_,_::_,h=>h.elim
 | _,_::_,_,_,[],h=>h.elim
def d61 (σ σ':U.St):Prop:=(∀t,σ.slot t= .unk \/ σ'.slot t=σ.slot t) /\ ∀id,σ'.mem id=σ.mem id
theorem d61.app {σ σ':U.St} (h:d61 σ σ') (d:Option Tmp) (v:U.AV) (ws:List (Nat×U.MC)):d61 (σ.app d v ws) (σ'.app d v ws):=by
 refine ⟨fun t=> ?_,fun id=> ?_⟩
 ·rw [p9,p9];split
  ·exact .inr rfl
  ·exact h.1 t
 ·rw [m5,m5,h.2 id]
theorem d61.ev {σ σ':U.St} (h:d61 σ σ') {q:U.Q}: ∀{m0 m:Nat} {v:U.AV} {ws:List (Nat×U.MC)},q.Ev σ m0 m v ws -> q.Ev σ' m0 m v ws:=by
 induction q with
 | rdT t k ih=>
   intro m0 m v ws hh
   have e:σ'.slot t=σ.slot t:=(h.1 t).resolve_left hh.1
   exact ⟨(by rw [e];exact hh.1),(by rw [e];exact ih _ hh.2)⟩
 | rdM id k ih=>intro m0 m v ws hh;show (k (σ'.mem id)).Ev σ' _ m v ws;rw [h.2 id];exact ih _ hh
 | opt o k ih=>intro m0 m v ws hh;obtain ⟨b,hb,hh⟩:=hh;exact ⟨b,hb,ih b hh⟩
 | cas o n k ih0 ih=>
   intro m0 m v ws hh
   rcases hh with ⟨hb,hh⟩ | ⟨b,hb,hh⟩
   ·exact .inl ⟨hb,ih0 hh⟩
   ·exact .inr ⟨b,hb,ih b hh⟩
 | done v' ws'=>intro m0 m v ws hh;exact hh
 | fail=>intro m0 m v ws hh;exact hh.elim
theorem d9m {σ:U.St} {q:U.Q} (x:Nat): ∀{m0 m:Nat} {v:U.AV} {ws:List (Nat×U.MC)},q.Ev σ m0 m v ws -> q.Ev σ (x ||| m0) (x ||| m) v ws:=by
 induction q with
 | rdT t k ih=>intro m0 m v ws hh;refine ⟨hh.1,?_⟩;have:=ih _ hh.2;rwa [<- Nat.or_assoc] at this
 | rdM id k ih=>intro m0 m v ws hh;have:=ih _ (show (k (σ.mem id)).Ev σ _ m v ws from hh);rw [<- Nat.or_assoc] at this;exact this
 | opt o k ih=>intro m0 m v ws hh;obtain ⟨b,hb,hh⟩:=hh;exact ⟨b,hb,ih b hh⟩
 | cas o n k ih0 ih=>
   intro m0 m v ws hh
   rcases hh with ⟨hb,hh⟩ | ⟨b,hb,hh⟩
   ·exact .inl ⟨hb,ih0 hh⟩
   ·exact .inr ⟨b,hb,ih b hh⟩
 | done v' ws'=>intro m0 m v ws hh;exact ⟨by rw [hh.1],hh.2⟩
 | fail=>intro m0 m v ws hh;exact hh.elim
def Sub (m s:Nat):Prop:= ∀i,m.testBit i=true -> s.testBit i=true
theorem d99 {m s:Nat} (h:f7c m s=true):Sub m s:=by
 intro i hi
 have:=qC h
 rw [<- this,Nat.testBit_or,hi];rfl
def b6i (C:RegC) (ctx:List (Nat×Bool)) (σ:U.St):Prop:= ∀q∈ctx,∃t,b99 C.ops q.1=some t /\ σ.slot t= .bool q.2
theorem b6i.app {C:RegC} {ctx:List (Nat×Bool)} {σ:U.St} (h:b6i C ctx σ) {d:Option Tmp} {v:U.AV} {ws:List (Nat×U.MC)} (hk:c6d C ctx d=true):b6i C ctx (σ.app d v ws):=by
 intro q hq
 obtain ⟨t,ht,hs⟩:=h q hq
 refine ⟨t,ht,?_⟩
 rw [p9]
 split
 ·rename_i hd
  subst hd
  have:=List.all_eq_true.1 hk q hq
  rw [ht] at this
  simp at this
 ·exact hs
def f6b (e:En U) (w:Nat):Prop:=(∀d,e.d=some d -> w.testBit (2*d)=true) /\ ∀id m,lk id e.ws=some m -> w.testBit (2*id+1)=true
def d9s (C:RegC) (ctx:List (Nat×Bool)) (k:Nat) (os:List Oper) (es:List (En U)) (hist hist':List (Nat×Nat×Nat)):Prop:=match ctx with
 | []=> ∃lg:List (Nat×Nat×Nat),hist'=lg.reverse++hist /\ (C.draw=true -> b2u C lg hist=true) /\ lg.length=es.length /\ ∀(j:Nat) (e:En U) (g:Nat×Nat×Nat),es[j]? =some e -> lg[j]? =some g -> g.1=k+j /\ Sub e.m g.2.1 /\ f6b e g.2.2
 | _::_=>hist'=hist /\ ∀(j:Nat) (e:En U) (o:Oper),es[j]? =some e -> os[j]? =some o -> e.ws=[] /\ Sub e.m (b4d C.ops o C.lim)
theorem b87 {C:RegC}: ∀(a b hist:List (Nat×Nat×Nat)),b2u C a hist=true -> b2u C b (a.reverse++hist)=true -> b2u C (a++b) hist=true
 | [],b,hist,_,h=>by simpa using h
 | e::a,b,hist,h,h'=>by
   simp only [b2u,qB] at h
   simp only [List.cons_append,b2u,qB]
   exact ⟨h.1,b87 a b (e::hist) h.2 (by simpa using h')⟩
theorem m8 {α:Type} {l r:List α} {j:Nat} {a:α} (h:(l++r)[j]? =some a):(j<l.length /\ l[j]? =some a) \/ (l.length <= j /\ r[j-l.length]? =some a):=by
 rcases Nat.lt_or_ge j l.length with hj | hj
 ·rw [List.getElem?_append_left hj] at h;exact .inl ⟨hj,h⟩
 ·rw [List.getElem?_append_right hj] at h;exact .inr ⟨hj,h⟩
theorem d9s.append {C:RegC} {ctx:List (Nat×Bool)} {k:Nat} {os os':List Oper} {es es':List (En U)} {h0 h1 h2:List (Nat×Nat×Nat)} (hl:es.length=os.length) (h:d9s C ctx k os es h0 h1) (h':d9s C ctx (k+os.length) os' es' h1 h2):d9s C ctx k (os++os') (es++es') h0 h2:=by
 cases ctx with
 | nil=>
   obtain ⟨lg,e1,e2,e3,e4⟩:=h
   obtain ⟨lg',f1,f2,f3,f4⟩:=h'
   refine ⟨lg++lg',by rw [f1,e1];simp,fun hd=>b87 _ _ _ (e2 hd) (by rw [<- e1];exact f2 hd),by simp [e3,f3],fun j e g he hg=> ?_⟩
   rcases m8 he with ⟨hj,he⟩ | ⟨hj,he⟩
   ·rcases m8 hg with ⟨hj',hg⟩ | ⟨hj',hg⟩
    ·exact e4 j e g he hg
    ·omega
   ·rcases m8 hg with ⟨hj',hg⟩ | ⟨hj',hg⟩
    ·omega
    ·rw [e3] at hg
     obtain ⟨g1,g2,g3⟩:=f4 _ e g he hg
     exact ⟨by omega,g2,g3⟩
 | cons c ctx=>
   refine ⟨h'.1.trans h.1,fun j e o he ho=> ?_⟩
   rcases m8 he with ⟨hj,he⟩ | ⟨hj,he⟩
   ·rcases m8 ho with ⟨hj',ho⟩ | ⟨hj',ho⟩
    ·exact h.2 j e o he ho
    ·omega
   ·rcases m8 ho with ⟨hj',ho⟩ | ⟨hj',ho⟩
    ·omega
    ·rw [hl] at he;exact h'.2 _ e o he ho
theorem e3n {l:List Nat} {k:Nat} (h:k∈l):(bits l).testBit k=true:=by
 have key: ∀(l:List Nat) (m:Nat),(m.testBit k=true \/ k∈l) -> (l.foldl (fun m k=>m ||| 2^k) m).testBit k=true:=by
  intro l
  induction l with
  | nil=>intro m h;simpa using h
  | cons x l ih=>
    intro m h
    refine ih _ ?_
    rw [a6i]
    rcases h with h | h
    ·left;rw [h];rfl
    ·rcases qO.1 h with h | h
     ·left;simp [h]
     ·exact .inr h
 exact key l 0 (.inr h)
theorem c5e {ops:List Oper} {o:Oper} {b t:Nat} (h:t∈e3i o):(b4d ops o b).testBit (2*t)=true:=by
 unfold b4d
 rw [Nat.testBit_or,Nat.testBit_or,e3n (List.mem_map_of_mem h)];rfl
theorem b4s {ops:List Oper} {o:Oper} {b g t:Nat} {w:Bool} (h:o.guard=some (g,w)) (ht:b99 ops g=some t):(b4d ops o b).testBit (2*t)=true:=by
 unfold b4d
 rw [h]
 simp only [ht]
 rw [Nat.testBit_or,Nat.testBit_two_pow]
 simp
theorem c5s: ∀(os:List Oper) (k:Nat) (p:Nat×Oper -> Bool),∃os1 os2,os=os1++os2 /\ (b0f k os).takeWhile p=b0f k os1 /\ (b0f k os).dropWhile p=b0f (k+os1.length) os2 /\ ∀q∈b0f k os1,p q=true
 | [],k,p=>⟨[],[],rfl,rfl,rfl,fun q h=>by cases h⟩
 | o::os,k,p=>by
   cases hp:p (k,o) with
   | false=>exact ⟨[],o::os,rfl,by simp [b0f,hp],by simp [b0f,hp],fun q h=>by cases h⟩
   | true=>
     obtain ⟨os1,os2,h1,h2,h3,h4⟩:=c5s os (k+1) p
     refine ⟨o::os1,os2,by rw [h1];rfl,by simp [b0f,hp,h2],?_,fun q h=> ?_⟩
     ·simp only [b0f,List.dropWhile_cons,hp,if_true,h3,List.length_cons]
      congr 1;omega
     ·rcases qO.1 h with h | h
      ·rw [h];exact hp
      ·exact h4 q h
theorem c12: ∀(os:List Oper) (k j:Nat) (o:Oper),os[j]? =some o -> (b0f k os)[j]? =some (k+j,o)
 | [],k,j,o,h=>by simp at h
 | x::os,k,0,o,h=>by simp at h;subst h;rfl
 | x::os,k,j+1,o,h=>by
   have:=c12 os (k+1) j o (by simpa using h)
   simp only [b0f,List.getElem?_cons_succ,this,show k+1+j=k+(j+1) by omega]
theorem d42: ∀{os:List Oper} {k:Nat} {q:Nat×Oper},q∈b0f k os -> ∃j,q.1=k+j /\ os[j]? =some q.2
 | [],k,q,h=>by cases h
 | x::os,k,q,h=>by
   rcases qO.1 h with h | h
   ·exact ⟨0,by rw [h];rfl,by rw [h];rfl⟩
   ·obtain ⟨j,h1,h2⟩:=d42 h
    exact ⟨j+1,by omega,by simpa using h2⟩
theorem b7c: ∀(l:List (Nat×Oper)) (σ:U.St) (t:Nat),((b1d σ l).slot t= .unk) \/ ((b1d σ l).slot t=σ.slot t /\ ∀q∈l,q.2.dst≠some t)
 | [],σ,t=> .inr ⟨rfl,fun q h=>by cases h⟩
 | q::l,σ,t=>by
   rcases b7c l (σ.put q.2.dst .unk) t with h | ⟨h,h'⟩
   ·exact .inl h
   ·have e:(σ.put q.2.dst .unk).slot t=if q.2.dst=some t then .unk else σ.slot t:=p9 σ q.2.dst .unk [] t
    have h:(b1d σ (q::l)).slot t=(σ.put q.2.dst .unk).slot t:=h
    rw [e] at h
    split at h
    ·exact .inl h
    ·rename_i hd
     exact .inr ⟨h,fun q' hq'=>by rcases qO.1 hq' with e' | e';rw [e'];exact hd;exact h' q' e'⟩
theorem c1q: ∀(l:List (Nat×Oper)) (σ:U.St) (t:Nat),(∀q∈l,q.2.dst≠some t) -> (b1d σ l).slot t=σ.slot t
 | [],σ,t,_=>rfl
 | q::l,σ,t,h=>by
   have h1:=c1q l (σ.put q.2.dst .unk) t fun q' hq'=>h q' (qJ _ hq')
   have e:(σ.put q.2.dst .unk).slot t=if q.2.dst=some t then .unk else σ.slot t:=p9 σ q.2.dst .unk [] t
   rw [if_neg (h q qI)] at e
   exact h1.trans e
theorem b8s: ∀(l:List (Nat×Oper)) (σ:U.St) (id:Nat),(b1d σ l).mem id=σ.mem id
 | [],σ,id=>rfl
 | q::l,σ,id=>by
   have h:=b8s l (σ.put q.2.dst .unk) id
   have e:(σ.put q.2.dst .unk).mem id=σ.mem id:=m5 σ q.2.dst .unk [] id
   rw [e] at h;exact h
theorem d0u {C:RegC}: ∀{k:Nat} {os:List Oper} {σ σ1:U.St} {es:List (En U)},Tr P Φ C k os σ es σ1 -> (∀e∈es,e.ws=[]) -> (∀id,σ1.mem id=σ.mem id) /\ ∀t,(∀o∈os,o.dst≠some t) -> σ1.slot t=σ.slot t
 | k,[],σ,σ1,[],h,_=>by have h:σ1=σ:=h;subst h;exact ⟨fun _=>rfl,fun _ _=>rfl⟩
 | k,o::os,σ,σ1,e::es,h,hw=>by
   obtain ⟨h1,h2⟩:=d0u h.2 fun e he=>hw e (qJ _ he)
   have hw0:=hw e qI
   refine ⟨fun id=> ?_,fun t ht=> ?_⟩
   ·rw [h1 id,m5,hw0];rfl
   ·rw [h2 t fun o ho=>ht o (qJ _ ho),p9,if_neg]
    rw [h.1.1];exact ht o qI
 | _,[],_,_,_::_,h,_=>h.elim
 | _,_::_,_,_,[],h,_=>h.elim
theorem c4o {σ σ':U.St} (h:d61 σ σ') {x:Operand} {b:Bool} (hb:b4z σ x=some b):b4z σ' x=some b:=by
 unfold b4z at hb⊢
 split at hb
 ·exact hb
 ·rename_i t
  split at hb
  ·rename_i b' hs
   have:σ'.slot t=σ.slot t:=(h.1 t).resolve_left (by rw [hs];intro e;cases e)
   rw [this,hs];exact hb
  ·cases hb
 ·cases hb
def opM:Operand -> Nat
 | .tmp t=>2^(2*t)
 | _=>0
theorem b8n {σ:U.St} {t:Nat} {e:Bool} (h:σ.slot t= .bool e):σ.slot t≠ .unk:=by rw [h];intro h;cases h
theorem e3y {σ:U.St} {t:Nat} (h:σ.slot t= .undef):σ.slot t≠ .unk:=by rw [h];intro h;cases h
theorem e3f {σ:U.St} {x:Operand} {b:Bool} (hb:b4z σ x=some b) (m:Nat):(rdO x fun y=>(.done y []:U.Q)).Ev σ m (m ||| opM x) (.bool b) []:=by
 cases x with
 | tmp t=>
   simp only [b4z] at hb
   split at hb
   ·rename_i b' hs
    cases hb
    exact ⟨b8n hs,rfl,hs.symm,rfl⟩
   ·cases hb
 | const c=>
   cases c<;>try cases hb
   exact ⟨by simp [opM],rfl,rfl⟩
 | global g=>cases hb
 | func f=>cases hb
theorem e0f {C:RegC} {ctx:List (Nat×Bool)} {σ:U.St} {q:Nat×Oper} {d t:Tmp} {x y:Operand} {e c:Bool} (hp:c8e q=some (d,t,x,y)) (hg:okG ctx q.2=true) (hctx:b6i C ctx σ) (hs:σ.slot t= .bool e) (hb:b4z σ (if e=true then x else y)=some c):
  ∃m,c3u P Φ C q.1 q.2 σ ⟨some d,m,.bool c,[]⟩ /\ Sub m (b4d C.ops q.2 C.lim):=by
 unfold c8e at hp
 split at hp
 ·rename_i d0 t0 x0 y0 hd ho
  cases hp
  have hev:(d90 q.2.op:U.Q).Ev σ 0 (2^(2*t) ||| (opM (if e=true then x else y))) (.bool c) []:=by
   rw [ho]
   refine ⟨b8n hs,?_⟩
   show Q.Ev σ (match σ.slot t with | .bool e=>(match e with | true=>rdO x fun x=> .done x [] | false=>rdO y fun y=> .done y []) | _=> .fail) _ _ _ _
   rw [hs]
   have:=e3f hb (0 ||| 2^(2*t))
   rw [Nat.zero_or] at this
   cases e
   ·simpa using this
   ·simpa using this
  have hsub:Sub (2^(2*t) ||| (opM (if e=true then x else y))) (b4d C.ops q.2 C.lim):=by
   have hop:e3i q.2=([.tmp t,x,y]:List Operand).filterMap fun | .tmp t=>some t | _=>none:=by
    unfold e3i;rw [ho];rfl
   intro i hi
   rw [Nat.testBit_or,Nat.testBit_two_pow] at hi
   simp only [Bool.or_eq_true,decide_eq_true_eq] at hi
   rcases hi with hi | hi
   ·rw [<- hi];exact c5e (by rw [hop];simp)
   ·unfold opM at hi
    split at hi
    ·rename_i tt htt
     rw [Nat.testBit_two_pow] at hi
     simp only [decide_eq_true_eq] at hi
     rw [<- hi]
     refine c5e ?_
     rw [hop,List.mem_filterMap]
     refine ⟨.tmp tt,?_,rfl⟩
     split at htt<;>simp [htt]
    ·simp at hi
  cases hgd:q.2.guard with
  | none=>exact ⟨_,⟨hd.symm,.inr (by unfold gq;rw [hgd];exact hev)⟩,hsub⟩
  | some gw=>
    obtain ⟨g,w⟩:=gw
    unfold okG at hg
    rw [hgd] at hg
    obtain ⟨cq,hcq,hc2⟩:=List.any_eq_true.1 hg
    simp only [qB,beq_iff_eq] at hc2
    obtain ⟨tg,htg,hsg⟩:=hctx cq hcq
    rw [qC hc2.1] at htg
    rw [hc2.2] at hsg
    refine ⟨2^(2*tg) ||| (2^(2*t) ||| (opM (if e=true then x else y))),⟨hd.symm,.inr ?_⟩,?_⟩
    ·unfold gq
     rw [hgd]
     simp only [htg]
     refine ⟨b8n hsg,?_⟩
     show Q.Ev σ (match σ.slot tg with | .bool b=>(match b==w with | true=>d90 q.2.op | false=> .done .undef []) | .undef=> .done .undef [] | _=> .fail) _ _ _ _
     rw [hsg]
     simp only [beq_self_eq_true]
     have:=d9m (2^(2*tg)) hev
     simpa using this
    ·intro i hi
     rw [Nat.testBit_or,Nat.testBit_two_pow] at hi
     simp only [Bool.or_eq_true,decide_eq_true_eq] at hi
     rcases hi with hi | hi
     ·rw [<- hi];exact b4s hgd htg
     ·exact hsub i hi
 ·cases hp
theorem e2c {C:RegC} {k:Nat} {g t:Nat} {want e:Bool} (hg:b99 C.ops g=some t) (hne:e≠want): ∀(os:List Oper) (j0:Nat) (σ:U.St),k <= j0 -> σ.slot t= .bool e -> (∀g',k <= g' -> g'<j0 -> ∃t',b99 C.ops g'=some t' /\ σ.slot t'= .undef) -> (∀j o,os[j]? =some o -> C.ops[j0+j]? =some o) -> (∀q∈b0f j0 os,b6h g want k q=true) -> e5x t (b0f j0 os)=true ->
  ∃es σ',Tr P Φ C j0 os σ es σ' /\ (∀e∈es,e.ws=[]) /\ (∀(j:Nat) (e:En U) (o:Oper),es[j]? =some e -> os[j]? =some o -> Sub e.m (b4d C.ops o C.lim)) /\ σ'.slot t= .bool e
 | [],j0,σ,_,hs,_,_,_,_=>⟨[],σ,rfl,(fun e h=>by cases h),(fun j e o h=>by simp at h),hs⟩
 | o::os,j0,σ,hk,hs,hu,hops,hin,hseg=>by
   have hin0:=hin (j0,o) qI
   unfold b6h at hin0
   have hseg0: ∃d,o.dst=some d /\ d≠t:=by
    have:=List.all_eq_true.1 hseg (j0,o) qI
    cases hd:o.dst with
    | none=>rw [hd] at this;cases this
    | some d=>
      rw [hd] at this
      refine ⟨d,rfl,fun he=> ?_⟩
      rw [he] at this;simp at this
   obtain ⟨d,hd,hdt⟩:=hseg0
   cases hgd:o.guard with
   | none=>rw [hgd] at hin0;cases hin0
   | some gw=>
     obtain ⟨g',w'⟩:=gw
     rw [hgd] at hin0
     simp only [Bool.or_eq_true,qB,beq_iff_eq] at hin0
     have hstep: ∃m,(∀q:U.Q,(gq C.ops o q).Ev σ 0 m .undef []) /\ Sub m (b4d C.ops o C.lim):=by
      rcases hin0 with ⟨h1,h2⟩ | ⟨h1,h2⟩
      ·have h1:=qC h1
       subst h1
       refine ⟨0 ||| 2^(2*t),fun q=> ?_,fun i hi=> ?_⟩
       ·unfold gq
        rw [hgd]
        simp only [hg]
        refine ⟨b8n hs,?_⟩
        show Q.Ev σ (match σ.slot t with | .bool b=>(match b==w' with | true=>q | false=> .done .undef []) | .undef=> .done .undef [] | _=> .fail) _ _ _ _
        rw [hs,h2]
        have:(e==want)=false:=by cases e<;>cases want<;>first | rfl | exact absurd rfl hne
        simp only [this]
        exact ⟨rfl,rfl,rfl⟩
       ·rw [Nat.zero_or,Nat.testBit_two_pow] at hi
        simp only [decide_eq_true_eq] at hi
        rw [<- hi];exact b4s hgd hg
      ·have h1:=Nat.le_of_ble_eq_true h1
       have h2:g'<j0:=by simpa [Nat.blt_eq] using h2
       obtain ⟨t',ht',hs'⟩:=hu g' h1 h2
       refine ⟨0 ||| 2^(2*t'),fun q=> ?_,fun i hi=> ?_⟩
       ·unfold gq
        rw [hgd]
        simp only [ht']
        refine ⟨e3y hs',?_⟩
        show Q.Ev σ (match σ.slot t' with | .bool b=>(match b==w' with | true=>q | false=> .done .undef []) | .undef=> .done .undef [] | _=> .fail) _ _ _ _
        rw [hs']
        exact ⟨rfl,rfl,rfl⟩
       ·rw [Nat.zero_or,Nat.testBit_two_pow] at hi
        simp only [decide_eq_true_eq] at hi
        rw [<- hi];exact b4s hgd ht'
     obtain ⟨m,hm,hsub⟩:=hstep
     have hops0:C.ops[j0]? =some o:=by simpa using hops 0 o rfl
     obtain ⟨es,σ',h1,h2,h3,h4⟩:=e2c hg hne os (j0+1) (σ.app o.dst .undef []) (by omega) (by rw [p9,hd,if_neg (by simpa using hdt)];exact hs)
      (fun g' hg1 hg2=>by
       rcases Nat.lt_or_ge g' j0 with hlt | hge
       ·obtain ⟨t',ht',hs'⟩:=hu g' hg1 hlt
        refine ⟨t',ht',?_⟩
        rw [p9];split
        ·rfl
        ·exact hs'
       ·have:g'=j0:=by omega
        subst this
        refine ⟨d,by unfold b99;rw [hops0];exact hd,?_⟩
        rw [p9,if_pos hd])
      (fun j o' ho'=>by have:=hops (j+1) o' (by simpa using ho');rwa [show j0+(j+1)=j0+1+j by omega] at this) (fun q hq=>hin q (qJ _ hq)) (by
       have:=hseg
       unfold e5x at this⊢
       rw [b0f,List.all_cons,qB] at this
       exact this.2)
     refine ⟨⟨o.dst,m,.undef,[]⟩::es,σ',⟨⟨rfl,.inl (hm _)⟩,h1⟩,fun e he=> ?_,fun j e o' he ho'=> ?_,h4⟩
     ·rcases qO.1 he with he | he
      ·rw [he]
      ·exact h2 e he
     ·cases j with
      | zero=>simp at he ho';subst he;subst ho';exact hsub
      | succ j=>exact h3 j e o' (by simpa using he) (by simpa using ho')
end
end Go.SX
namespace Go.SX
open Go Go.PL
section
variable {P:Program} {U:Uni} {Φ:Phi U}
theorem b6a {o:Oper} {ws:List (Nat×U.MC)}:(∀d,o.dst=some d -> (b6g o ws).testBit (2*d)=true) /\ ∀id m,lk id ws=some m -> (b6g o ws).testBit (2*id+1)=true:=by
 have key: ∀(ws:List (Nat×U.MC)) (m k:Nat),(m.testBit k=true \/ ∃w∈ws,2*w.1+1=k) -> (ws.foldl (fun m w=>m ||| 2^(2*w.1+1)) m).testBit k=true:=by
  intro ws
  induction ws with
  | nil=>
    intro m k h
    rcases h with h | ⟨w,hw,_⟩
    ·exact h
    ·cases hw
  | cons w ws ih=>
    intro m k h
    refine ih _ k ?_
    rw [a6i]
    rcases h with h | ⟨w',hw',h⟩
    ·left;rw [h];rfl
    ·rcases qO.1 hw' with e | e
     ·left;rw [<- h,e];simp
     ·exact .inr ⟨w',e,h⟩
 refine ⟨fun d hd=>key ws _ _ (.inl ?_),fun id m hl=>key ws _ _ (.inr ⟨_,a98 hl,rfl⟩)⟩
 unfold f2t
 rw [hd]
 simp
theorem d9y {o:Oper} {d:Nat} (hd:o.dst=some d):(f2t o).testBit (2*d)=true:=by
 unfold f2t;rw [hd];simp
def b8e (P:Program) (Φ:Phi U) (C:RegC) {R:Type} (k:Nat) (os:List Oper) (ctx:List (Nat×Bool)) (hist:List (Nat×Nat×Nat)) (σ0 σx:U.St) (K:List (Nat×Nat×Nat) -> U.St -> Option R) (r:R):Prop:=
 ∃es σx' σe' hist',Tr P Φ C k os σx es σx' /\ d61 σe' σx' /\ b6i C ctx σx' /\ K hist' σe'=some r /\ d9s C ctx k os es hist hist' /\ ∀t,(∀o∈os,o.dst≠some t) -> σe'.slot t=σ0.slot t
theorem b8e.cons {C:RegC} {R:Type} {k:Nat} {o:Oper} {os:List Oper} {ctx:List (Nat×Bool)} {h0 h1:List (Nat×Nat×Nat)} {σ0 σx:U.St} {v0:U.AV} {w0:List (Nat×U.MC)} {K:List (Nat×Nat×Nat) -> U.St -> Option R} {r:R} {e:En U}
  (hs:c3u P Φ C k o σx e) (hl:d9s C ctx k [o] [e] h0 h1) (h:b8e P Φ C (k+1) os ctx h1 (σ0.app o.dst v0 w0) (σx.app e.d e.v e.ws) K r):b8e P Φ C k (o::os) ctx h0 σ0 σx K r:=by
 obtain ⟨es,σx',σe',hist',g1,g2,g3,g4,g5,g6⟩:=h
 refine ⟨e::es,σx',σe',hist',⟨hs,g1⟩,g2,g3,g4,d9s.append (os:=[o]) (es:=[e]) rfl hl g5,fun t ht=> ?_⟩
 rw [g6 t fun o' ho'=>ht o' (qJ _ ho'),p9,if_neg (ht o qI)]
theorem b8e.append {C:RegC} {R:Type} {k:Nat} {os os':List Oper} {ctx:List (Nat×Bool)} {h0 h1:List (Nat×Nat×Nat)} {σ0 σ2 σx σ1:U.St} {K:List (Nat×Nat×Nat) -> U.St -> Option R} {r:R} {es:List (En U)}
  (ht:Tr P Φ C k os σx es σ1) (hl:d9s C ctx k os es h0 h1) (hk: ∀t,(∀o∈os,o.dst≠some t) -> σ2.slot t=σ0.slot t) (h:b8e P Φ C (k+os.length) os' ctx h1 σ2 σ1 K r):b8e P Φ C k (os++os') ctx h0 σ0 σx K r:=by
 obtain ⟨es',σx',σe',hist',g1,g2,g3,g4,g5,g6⟩:=h
 exact ⟨es++es',σx',σe',hist',ht.append g1,g2,g3,g4,d9s.append ht.len hl g5,fun t ht'=>(g6 t fun o ho=>ht' o (List.mem_append_right _ ho)).trans (hk t fun o ho=>ht' o (List.mem_append_left _ ho))⟩
theorem f1z {C:RegC} {ctx:List (Nat×Bool)} {σ:U.St} {o:Oper} (hg:okG ctx o=true) (hctx:b6i C ctx σ) {q:U.Q} {m:Nat} {v:U.AV} {ws:List (Nat×U.MC)} (hev:q.Ev σ 0 m v ws):
  ∃m',(gq C.ops o q).Ev σ 0 m' v ws /\ (Sub m (b4d C.ops o C.lim) -> Sub m' (b4d C.ops o C.lim)) /\ (ctx=[] -> m'=m):=by
 cases hgd:o.guard with
 | none=>exact ⟨m,by unfold gq;rw [hgd];exact hev,fun h=>h,fun _=>rfl⟩
 | some gw=>
   obtain ⟨g,w⟩:=gw
   unfold okG at hg
   rw [hgd] at hg
   obtain ⟨cq,hcq,hc2⟩:=List.any_eq_true.1 hg
   simp only [qB,beq_iff_eq] at hc2
   obtain ⟨tg,htg,hsg⟩:=hctx cq hcq
   rw [qC hc2.1] at htg
   rw [hc2.2] at hsg
   refine ⟨2^(2*tg) ||| m,?_,fun hs=> ?_,fun h=>by rw [h] at hcq;cases hcq⟩
   ·unfold gq
    rw [hgd]
    simp only [htg]
    refine ⟨b8n hsg,?_⟩
    show Q.Ev σ (match σ.slot tg with | .bool b=>(match b==w with | true=>q | false=> .done .undef []) | .undef=> .done .undef [] | _=> .fail) _ _ _ _
    rw [hsg]
    simp only [beq_self_eq_true]
    have:=d9m (2^(2*tg)) hev
    simpa using this
   ·intro i hi
    rw [Nat.testBit_or,Nat.testBit_two_pow] at hi
    simp only [Bool.or_eq_true,decide_eq_true_eq] at hi
    rcases hi with hi | hi
    ·rw [<- hi];exact b4s hgd htg
    ·exact hs i hi
theorem b6i.nil {C:RegC} {σ:U.St}:b6i C [] σ:=fun q h=>by cases h
theorem e5p {C:RegC} {ctx:List (Nat×Bool)} {σ σ1:U.St} {os:List Oper} {k:Nat} (h:b6i C ctx σ) (hk: ∀q∈b0f k os,c6d C ctx q.2.dst=true) (hs: ∀t,(∀o∈os,o.dst≠some t) -> σ1.slot t=σ.slot t):b6i C ctx σ1:=by
 intro q hq
 obtain ⟨t,ht,hst⟩:=h q hq
 refine ⟨t,ht,?_⟩
 rw [hs t fun o ho hd=> ?_]
 ·exact hst
 ·obtain ⟨j,hj⟩:=List.getElem?_of_mem ho
  have hm:(k+j,o)∈b0f k os:=qE (c12 os k j o hj)
  have h1:=hk _ hm
  unfold c6d at h1
  rw [hd] at h1
  have h2:=List.all_eq_true.1 h1 q hq
  rw [ht] at h2
  simp at h2
theorem e36 {C:RegC} {k:Nat} {os:List Oper} {es:List (En U)} {σ σ1:U.St} (ht:Tr P Φ C k os σ es σ1) (hw: ∀(j:Nat) (e:En U) (o:Oper),es[j]? =some e -> os[j]? =some o -> e.ws=[] /\ Sub e.m (b4d C.ops o C.lim)):
  ∀(j:Nat) (e:En U) (g:Nat×Nat×Nat),es[j]? =some e -> (c44 C (b0f k os))[j]? =some g -> g.1=k+j /\ Sub e.m g.2.1 /\ f6b e g.2.2:=by
 induction os generalizing k es σ with
 | nil=>intro j e g he hg;simp [c44,b0f] at hg
 | cons o os ih=>
   cases es with
   | nil=>exact ht.elim
   | cons e0 es=>
     intro j e g he hg
     cases j with
     | zero=>
       simp [c44,b0f] at he hg
       subst he;subst hg
       obtain ⟨h1,h2⟩:=hw 0 e0 o rfl rfl
       refine ⟨rfl,h2,fun d hd=> ?_,fun id m hl=>by rw [h1] at hl;cases hl⟩
       rw [ht.1.1] at hd
       exact d9y hd
     | succ j=>
       obtain ⟨h1,h2,h3⟩:=ih ht.2 (fun j e o he ho=>hw (j+1) e o (by simpa using he) (by simpa using ho)) j e g (by simpa using he) (by simpa [c44,b0f] using hg)
       exact ⟨by omega,h2,h3⟩
theorem c2o: ∀(a b:List Oper) (k:Nat),b0f k (a++b)=b0f k a++b0f (k+a.length) b
 | [],b,k=>rfl
 | x::a,b,k=>by simp only [List.cons_append,b0f,c2o a b (k+1),List.length_cons,show k+1+a.length=k+(a.length+1) by omega]
theorem d41: ∀(os:List Oper) (k:Nat),(b0f k os).length=os.length
 | [],_=>rfl
 | _::os,k=>by simp [b0f,d41 os]
theorem a7b {C:RegC} {R:Type}: ∀(n k:Nat) (os:List Oper) (ctx:List (Nat×Bool)) (hist:List (Nat×Nat×Nat)) (σe:U.St) (K:List (Nat×Nat×Nat) -> U.St -> Option R) (r:R),b22 P Φ C n (b0f k os) ctx hist σe K=some r -> (∀(j:Nat) (o:Oper),os[j]? =some o -> C.ops[k+j]? =some o) ->
  ∀σx,d61 σe σx -> b6i C ctx σx -> b8e P Φ C k os ctx hist σe σx K r
 | 0,_,_,_,_,_,_,_,h,_,_,_,_=>by cases h
 | n+1,k,[],ctx,hist,σe,K,r,h,_,σx,hl,hc=>by
   refine ⟨[],σx,σe,hist,rfl,hl,hc,h,?_⟩
   cases ctx with
   | nil=>exact ⟨⟨[],rfl,fun _=>rfl,rfl,fun j e g he=>by simp at he⟩,fun _ _=>rfl⟩
   | cons _ _=>exact ⟨⟨rfl,fun j e o he=>by simp at he⟩,fun _ _=>rfl⟩
 | n+1,k,o::os,ctx,hist,σe,K,r,h,hops,σx,hless,hctx=>by
   have hops1: ∀(j:Nat) (o':Oper),os[j]? =some o' -> C.ops[k+1+j]? =some o':=fun j o' ho'=>by
    have:=hops (j+1) o' (by simpa using ho')
    rwa [show k+(j+1)=k+1+j by omega] at this
   simp only [b0f,b22] at h
   cases hsp:(spG C o||C.sp.any (Nat.beq k))&&ctx.isEmpty with
   | true=>
     rw [hsp] at h
     dsimp only at h
     simp only [qB,List.isEmpty_iff] at hsp
     have hcn:=hsp.2
     subst hcn
     obtain ⟨m,v,ws,hev,h⟩:=c1h h
     have hst:c3u P Φ C k o σx ⟨o.dst,m,v,ws⟩:=by
      refine ⟨rfl,?_⟩
      have hev:=hless.ev hev
      cases hp:e6a o.op with
      | true=>rw [hp] at hev;exact .inr hev
      | false=>rw [hp] at hev;exact .inl hev
     cases hc: !C.draw||d27 (C.bef.getD k 0) m (b6g o ws) hist with
     | false=>rw [hc] at h;cases h
     | true=>
       rw [hc] at h
       dsimp only at h
       have hlg:d9s C [] k [o] [(⟨o.dst,m,v,ws⟩:En U)] hist ((k,m,b6g o ws)::hist):=by
        refine ⟨[(k,m,b6g o ws)],rfl,fun hd=> ?_,rfl,fun j e g he hg=> ?_⟩
        ·rw [hd] at hc
         simp only [b2u,Bool.and_true]
         simpa using hc
        ·cases j with
         | zero=>
           simp at he hg
           subst he;subst hg
           exact ⟨rfl,fun _ h=>h,b6a.1,b6a.2⟩
         | succ j=>simp at he
       have fin: ∀σ':U.St,(∀t,σ'.slot t= .unk \/ (σe.app o.dst v ws).slot t=σ'.slot t) -> (∀id,σ'.mem id=(σe.app o.dst v ws).mem id) -> (∀t,o.dst≠some t -> σ'.slot t=(σe.app o.dst v ws).slot t) -> b22 P Φ C n (b0f (k+1) os) [] ((k,m,b6g o ws)::hist) σ' K=some r -> b8e P Φ C k (o::os) [] hist σe σx K r:=by
        intro σ' hs1 hs2 hs3 h
        have hless':d61 σ' (σx.app o.dst v ws):=by
         have h0:=hless.app o.dst v ws
         refine ⟨fun t=> ?_,fun id=>by rw [h0.2 id,hs2 id]⟩
         rcases hs1 t with h1 | h1
         ·exact .inl h1
         ·rcases h0.1 t with h2 | h2
          ·left;rw [<- h1];exact h2
          ·right;rw [h2,h1]
        obtain ⟨es,σx',σe',hist',g1,g2,g3,g4,g5,g6⟩:=a7b n (k+1) os [] _ _ K r h hops1 _ hless' b6i.nil
        refine ⟨⟨o.dst,m,v,ws⟩::es,σx',σe',hist',⟨hst,g1⟩,g2,g3,g4,d9s.append (os:=[o]) (es:=[⟨o.dst,m,v,ws⟩]) rfl hlg g5,fun t ht=> ?_⟩
        rw [g6 t fun o' ho'=>ht o' (qJ _ ho'),hs3 t (ht o qI),p9,if_neg (ht o qI)]
       have self:b22 P Φ C n (b0f (k+1) os) [] ((k,m,b6g o ws)::hist) (σe.app o.dst v ws) K=some r -> b8e P Φ C k (o::os) [] hist σe σx K r:=
        fun h=>fin _ (fun t=> .inr rfl) (fun _=>rfl) (fun _ _=>rfl) h
       split at h
       ·unfold e72 at h
        split at h
        ·rename_i t hdt
         have put: ∀b:Bool,(σe.app o.dst v ws).slot t= .bool b -> b22 P Φ C n (b0f (k+1) os) [] ((k,m,b6g o ws)::hist) ((σe.app o.dst v ws).put (some t) (.bool b)) K=some r -> b8e P Φ C k (o::os) [] hist σe σx K r:=by
          intro b hb h
          have e: ∀t',((σe.app o.dst v ws).put (some t) (.bool b)).slot t'=if some t=some t' then .bool b else (σe.app o.dst v ws).slot t':=fun t'=>p9 (σe.app o.dst v ws) (some t) (.bool b) [] t'
          refine fin ((σe.app o.dst v ws).put (some t) (.bool b)) (fun t'=> ?_) (fun id=>rfl) (fun t' ht'=> ?_) h
          ·right
           rw [e]
           split
           ·rename_i e';cases e';exact hb
           ·rfl
          ·rw [e,if_neg]
           rw [hdt] at ht';exact ht'
         split at h
         ·rename_i e he
          cases e with
          | true=>exact put true he (by simpa using h)
          | false=>exact put false he (by simpa using h)
         ·exact self h
         ·cases h
        ·cases h
       ·exact self h
   | false=>
   rw [hsp] at h
   dsimp only at h
   clear hsp
   cases hg:okG ctx o with
   | true=>
     rw [hg] at h
     dsimp only at h
     obtain ⟨m,v,ws,hev,h⟩:=c1h h
     obtain ⟨m',hgq,hsub,hm'⟩:=f1z hg hctx (hless.ev hev)
     cases ctx with
     | nil=>
       dsimp only at h
       cases hc: !C.draw||d27 (C.bef.getD k 0) m (b6g o ws) hist with
       | false=>rw [hc] at h;cases h
       | true=>
         rw [hc] at h
         dsimp only at h
         have hmm:=hm' rfl
         subst hmm
         refine b8e.cons (e:=⟨o.dst,m',v,ws⟩) (h1:=(k,m',b6g o ws)::hist) ⟨rfl,.inl hgq⟩ ⟨[(k,m',b6g o ws)],rfl,fun hd=> ?_,rfl,fun j e g he hg=> ?_⟩ (a7b n (k+1) os [] _ _ K r h hops1 _ (hless.app _ _ _) b6i.nil)
         ·rw [hd] at hc
          simp only [b2u,Bool.and_true]
          simpa using hc
         ·cases j with
          | zero=>
            simp at he hg
            subst he;subst hg
            exact ⟨rfl,fun _ h=>h,b6a.1,b6a.2⟩
          | succ j=>simp at he
     | cons c ctx=>
       dsimp only at h
       cases ws with
       | cons _ _=>cases h
       | nil=>
         dsimp only at h
         cases hc:c6d C (c::ctx) o.dst&&f7c m (b4d C.ops o C.lim) with
         | false=>rw [hc] at h;cases h
         | true=>
           rw [hc] at h
           dsimp only at h
           simp only [qB] at hc
           refine b8e.cons (e:=⟨o.dst,m',v,[]⟩) (h1:=hist) ⟨rfl,.inl hgq⟩ ⟨rfl,fun j e o' he ho'=> ?_⟩ (a7b n (k+1) os (c::ctx) _ _ K r h hops1 _ (hless.app _ _ _) (hctx.app hc.1))
           cases j with
           | zero=>
             simp at he ho'
             subst he;subst ho'
             exact ⟨rfl,hsub (d99 hc.2)⟩
           | succ j=>simp at he
   | false=>
     rw [hg] at h
     dsimp only at h
     cases hgd:o.guard with
     | none=>rw [hgd] at h;cases h
     | some gw=>
       obtain ⟨g,want⟩:=gw
       rw [hgd] at h
       dsimp only at h
       cases hgs:b99 C.ops g with
       | none=>rw [hgs] at h;cases h
       | some t=>
         rw [hgs] at h
         dsimp only at h
         cases hst:σe.slot t<;>rw [hst] at h<;>try (cases h;done)
         rename_i e
         dsimp only at h
         obtain ⟨os1,os2,hos,htk,hdr,hin⟩:=c5s (o::os) k (b6h g want k)
         have htk:((k,o)::b0f (k+1) os).takeWhile (b6h g want k)=b0f k os1:=htk
         have hdr:((k,o)::b0f (k+1) os).dropWhile (b6h g want k)=b0f (k+os1.length) os2:=hdr
         rw [htk,hdr] at h
         cases os2 with
         | nil=>cases h
         | cons op os2=>
           simp only [b0f] at h
           cases hp:c8e (k+os1.length,op) with
           | none=>rw [hp] at h;cases h
           | some dt=>
             obtain ⟨d,t',x,y⟩:=dt
             rw [hp] at h
             dsimp only at h
             cases hc:Nat.beq t' t&&okG ctx op&&c6d C ctx (some d)&&e5x t (b0f k os1)&&((b0f k os1).all fun q=>c6d C ctx q.2.dst) with
             | false=>rw [hc] at h;cases h
             | true=>
               rw [hc] at h
               dsimp only at h
               simp only [qB] at hc
               obtain ⟨⟨⟨⟨hc1,hc2⟩,hc3⟩,hc4⟩,hc5⟩:=hc
               have hc1:=qC hc1
               subst hc1
               obtain ⟨c,hcv,h⟩:=f2d h
               have hsx:σx.slot t'= .bool e:=by rw [(hless.1 t').resolve_left (b8n hst)];exact hst
               have hops0: ∀(j:Nat) (o':Oper),os1[j]? =some o' -> C.ops[k+j]? =some o':=fun j o' ho'=>hops j o' (by rw [hos,List.getElem?_append_left (qD.1 ho').1];exact ho')
               have hops2: ∀(j:Nat) (o':Oper),os2[j]? =some o' -> C.ops[k+os1.length+1+j]? =some o':=fun j o' ho'=>by
                have:=hops (os1.length+1+j) o' (by rw [hos,List.getElem?_append_right (by omega),show os1.length+1+j-os1.length=j+1 by omega];simpa using ho')
                rwa [show k+(os1.length+1+j)=k+os1.length+1+j by omega] at this
               have hseg: ∃es σ1,Tr P Φ C k os1 σx es σ1 /\ (∀(j:Nat) (e:En U) (o:Oper),es[j]? =some e -> os1[j]? =some o -> e.ws=[] /\ Sub e.m (b4d C.ops o C.lim)) /\ (∀e∈es,e.ws=[]) /\ σ1.slot t'= .bool e /\ b4z σ1 (if e=true then x else y)=some c:=by
                have run: ∀(z:Operand),e=want -> (if e=true then x else y)=z -> b22 P Φ C n (b0f k os1) ((g,want)::ctx) hist σe (fun _ σ'=>b4z σ' z)=some c -> ∃es σ1,Tr P Φ C k os1 σx es σ1 /\ (∀(j:Nat) (e:En U) (o:Oper),es[j]? =some e -> os1[j]? =some o -> e.ws=[] /\ Sub e.m (b4d C.ops o C.lim)) /\ (∀e∈es,e.ws=[]) /\ σ1.slot t'= .bool e /\ b4z σ1 (if e=true then x else y)=some c:=by
                 intro z hew hz hr
                 obtain ⟨es,σ1,σe1,hist1,g1,g2,g3,g4,g5,_⟩:=a7b n k os1 ((g,want)::ctx) hist σe _ c hr hops0 σx hless (fun q hq=>by
                  rcases qO.1 hq with e' | e'
                  ·rw [e'];exact ⟨t',hgs,by rw [hsx,hew]⟩
                  ·exact hctx q e')
                 obtain ⟨tt,ht1,ht2⟩:=g3 (g,want) qI
                 rw [hgs] at ht1
                 cases ht1
                 refine ⟨es,σ1,g1,g5.2,fun e he=> ?_,by rw [hew];exact ht2,by rw [hz];exact c4o g2 g4⟩
                 obtain ⟨j,hj⟩:=List.getElem?_of_mem he
                 have hlt:j<os1.length:=by rw [<- g1.len];exact (qD.1 hj).1
                 exact (g5.2 j e _ hj (qG hlt)).1
                have skip: ∀(z:Operand),e≠want -> (if e=true then x else y)=z -> b4z (b1d σe (b0f k os1)) z=some c -> ∃es σ1,Tr P Φ C k os1 σx es σ1 /\ (∀(j:Nat) (e:En U) (o:Oper),es[j]? =some e -> os1[j]? =some o -> e.ws=[] /\ Sub e.m (b4d C.ops o C.lim)) /\ (∀e∈es,e.ws=[]) /\ σ1.slot t'= .bool e /\ b4z σ1 (if e=true then x else y)=some c:=by
                 intro z hew hz hr
                 obtain ⟨es,σ1,g1,g2,g3,g4⟩:=e2c (P:=P) (Φ:=Φ) (C:=C) (k:=k) hgs hew os1 k σx (Nat.le_refl _) hsx (fun g' h1 h2=>by omega) hops0 hin hc4
                 obtain ⟨k1,k2⟩:=d0u g1 g2
                 refine ⟨es,σ1,g1,fun j e o he ho=>⟨g2 e (qE he),g3 j e o he ho⟩,g2,g4,?_⟩
                 rw [hz]
                 refine c4o (σ:=b1d σe (b0f k os1)) ⟨fun tt=> ?_,fun id=> ?_⟩ hr
                 ·rcases b7c (b0f k os1) σe tt with h1 | ⟨h1,h2⟩
                  ·exact .inl h1
                  ·rw [h1]
                   rcases hless.1 tt with h3 | h3
                   ·exact .inl h3
                   ·right
                    rw [k2 tt fun o ho hd=> ?_]
                    ·exact h3
                    ·obtain ⟨j,hj⟩:=List.getElem?_of_mem ho
                     exact h2 _ (qE (c12 os1 k j o hj)) hd
                 ·rw [k1 id,b8s,hless.2 id]
                cases want with
                | true=>
                  dsimp only at hcv
                  cases e with
                  | true=>exact run x rfl rfl (by simpa using hcv)
                  | false=>exact skip y (by simp) rfl (by simpa using hcv)
                | false=>
                  dsimp only at hcv
                  cases e with
                  | true=>exact skip x (by simp) rfl (by simpa using hcv)
                  | false=>exact run y rfl rfl (by simpa using hcv)
               obtain ⟨es,σ1,g1,g2,g3,g4,g5⟩:=hseg
               obtain ⟨k1,k2⟩:=d0u g1 g3
               have hctx1:b6i C ctx σ1:=e5p hctx (fun q hq=>List.all_eq_true.1 hc5 q hq) k2
               obtain ⟨mp,hstep,hmsub⟩:=e0f (P:=P) (Φ:=Φ) (C:=C) hp hc2 hctx1 g4 g5
               have hless1:d61 ((b1d σe (b0f k os1)).put (some d) (.bool c)) (σ1.app (some d) (.bool c) []):=by
                refine d61.app (σ:=b1d σe (b0f k os1)) (σ':=σ1) ⟨fun tt=> ?_,fun id=> ?_⟩ (some d) (.bool c) []
                ·rcases b7c (b0f k os1) σe tt with h1 | ⟨h1,h2⟩
                 ·exact .inl h1
                 ·rw [h1]
                  rcases hless.1 tt with h3 | h3
                  ·exact .inl h3
                  ·right
                   rw [k2 tt fun o ho hd=> ?_]
                   ·exact h3
                   ·obtain ⟨j,hj⟩:=List.getElem?_of_mem ho
                    exact h2 _ (qE (c12 os1 k j o hj)) hd
                ·rw [k1 id,b8s,hless.2 id]
               have hdst:op.dst=some d:=by
                unfold c8e at hp
                split at hp
                ·rename_i hd _;cases hp;exact hd
                ·cases hp
               rw [hos]
               have hTr2:Tr P Φ C k (os1++[op]) σx (es++[⟨some d,mp,.bool c,[]⟩]) (σ1.app (some d) (.bool c) []):=g1.append ⟨hstep,rfl⟩
               have hlg2: ∀(j:Nat) (e:En U) (o:Oper),(es++[(⟨some d,mp,.bool c,[]⟩:En U)])[j]? =some e -> (os1++[op])[j]? =some o -> e.ws=[] /\ Sub e.m (b4d C.ops o C.lim):=by
                intro j e o he ho
                rcases m8 he with ⟨hj,he⟩ | ⟨hj,he⟩
                ·rcases m8 ho with ⟨hj',ho⟩ | ⟨hj',ho⟩
                 ·exact g2 j e o he ho
                 ·have:=g1.len;omega
                ·rcases m8 ho with ⟨hj',ho⟩ | ⟨hj',ho⟩
                 ·have:=g1.len;omega
                 ·have hlen:=g1.len
                  rw [hlen] at he
                  cases hjj:j-os1.length with
                  | zero=>
                    rw [hjj] at he ho
                    simp at he ho
                    subst he;subst ho
                    exact ⟨rfl,hmsub⟩
                  | succ q=>rw [hjj] at he;simp at he
               rw [show os1++op::os2=(os1++[op])++os2 by simp]
               have hkeep: ∀t,(∀o∈os1++[op],o.dst≠some t) -> ((b1d σe (b0f k os1)).put (some d) (.bool c)).slot t=σe.slot t:=fun t ht=>by
                have e:((b1d σe (b0f k os1)).put (some d) (.bool c)).slot t=if some d=some t then .bool c else (b1d σe (b0f k os1)).slot t:=p9 (b1d σe (b0f k os1)) (some d) (.bool c) [] t
                rw [e,if_neg,c1q]
                ·intro q hq
                 obtain ⟨j,_,hj⟩:=d42 hq
                 exact ht q.2 (List.mem_append_left _ (qE hj))
                ·rw [<- hdst];exact ht op (by simp)
               cases ctx with
               | nil=>
                 dsimp only at h
                 cases hol: !C.draw||b2u C (c44 C (b0f k os1++[(k+os1.length,op)])) hist with
                 | false=>rw [hol] at h;cases h
                 | true=>
                   rw [hol] at h
                   dsimp only at h
                   refine b8e.append (h1:=(c44 C (b0f k os1++[(k+os1.length,op)])).reverse++hist) hTr2 ⟨c44 C (b0f k os1++[(k+os1.length,op)]),rfl,fun hd=> ?_,?_,fun j e g he hg=> ?_⟩ hkeep ?_
                   ·rw [hd] at hol;simpa using hol
                   ·have:=g1.len
                    simp [c44,d41,this]
                   ·have he2:b0f k os1++[(k+os1.length,op)]=b0f k (os1++[op]):=by rw [c2o];rfl
                    rw [he2] at hg
                    exact e36 hTr2 hlg2 j e g he hg
                   ·have:=a7b n (k+os1.length+1) os2 [] _ _ K r h hops2 _ hless1 b6i.nil
                    simpa [Nat.add_assoc] using this
               | cons c0 ctx=>
                 dsimp only at h
                 refine b8e.append (h1:=hist) hTr2 ⟨rfl,hlg2⟩ hkeep ?_
                 have:=a7b n (k+os1.length+1) os2 (c0::ctx) _ _ K r h hops2 _ hless1 (hctx1.app hc3)
                 simpa [Nat.add_assoc] using this
end
end Go.SX
namespace Go.SX
open Go Go.PL
section
variable {P:Program} {U:Uni} {Φ:Phi U} {E:Env} {n:Nat} {ops:List Oper}
theorem Rel.congr {Z:Nat -> Prop} {π:Nat -> Value} {σ σ':U.St} {ρ:Nat -> Value} {w:World} (h:Rel E Z π σ ρ w) (hl:d61 σ' σ):Rel E Z π σ' ρ w:=by
 have hcx:cx Z π σ' w=cx Z π σ w:=by
  unfold cx;congr 1;funext id
  unfold b39;rw [hl.2 id]
 refine ⟨fun t=> ?_,fun id=> ?_,fun id b hb=> ?_,fun id id' b hne hb hb'=> ?_,h.zlt,h.zin,h.zout,h.ext,fun id hp=>⟨by
  have:=(h.pin id hp).1
  unfold b39 at this ⊢; rwa [<- hl.2 id],(h.pin id hp).2⟩,h.tab⟩
 ·rw [hcx]
  rcases hl.1 t with h1 | h1
  ·rw [h1];trivial
  ·rw [<- h1];exact h.slot t
 ·rw [hcx,<- hl.2 id];exact h.mem id
 ·rw [<- hl.2 id] at hb;exact h.own id b hb
 ·rw [<- hl.2 id] at hb;rw [<- hl.2 id'] at hb';exact h.dist id id' b hne hb hb'
theorem d8m {Z:Nat -> Prop} {π:Nat -> Value} {σ:U.St} {ρ:Nat -> Value} {w:World} (h:Rel E Z π σ ρ w) {o:Oper} {m0 m:Nat} {v:U.AV} {ws:List (Nat×U.MC)} (hev:(d90 o.op:U.Q).Ev σ m0 m v ws):a39 P E σ ρ w o v ws:=by
 obtain ⟨d,op,ty,ps,af,g⟩:=o
 cases op<;>try exact hev.elim
 rename_i c a b
 obtain ⟨e,m1,he,hev⟩:=q9 h hev
 cases e<;>try exact hev.elim
 rename_i e
 cases e with
 | true=>
   obtain ⟨x,m2,hx,hm,rfl,rfl⟩:=q9 h hev
   exact d9 h (d4u he rfl) hx
 | false=>
   obtain ⟨x,m2,hx,hm,rfl,rfl⟩:=q9 h hev
   exact d9 h (d3a he rfl) hx
theorem d80 (hU:UOK U) (hΦ:OKΦ P Φ) (hT:Plan.okTmps ops n=true) (hS:Plan.okSel ops=true) {C:RegC} (hC:C.ops=ops) {i:Nat} {o:Oper} (ho:ops[i]? =some o) {Z:Nat -> Prop} {π:Nat -> Value} {σ:U.St} {ρ:Nat -> Value} {w:World} (h:Rel E Z π σ ρ w) {e:En U} (hs:c3u P Φ C i o σ e)
  {Q:Exit -> Act -> World -> Prop} {K:Act -> World -> Prop} {rr:Option Nat} {ds:List Deferred} (hK: ∀Z' π' u w',Rel E Z' π' (σ.app e.d e.v e.ws) (a9j ρ e.d u) w' -> K (Frd n (a9j ρ e.d u) ds) w'):wpOpIn (FR rr) 9 P ops.toArray Q i K (Frd n ρ ds) w:=by
 obtain ⟨hd,hs⟩:=hs
 have hboth: ∃q:U.Q,(gq C.ops o q).Ev σ 0 e.m e.v e.ws /\ ∀m0,q.Ev σ m0 e.m e.v e.ws -> a39 P E σ ρ w o e.v e.ws:=by
  rcases hs with hs | hs
  ·exact ⟨_,hs,fun m0 hh=>e4p hU hΦ h hh⟩
  ·exact ⟨_,hs,fun m0 hh=>d8m h hh⟩
 obtain ⟨q,hq,hgood⟩:=hboth
 unfold wpOpIn
 simp only [List.getElem?_toArray,ho]
 have hw:Region.wanted o (yielded ops.toArray (Frd n ρ ds).tmps)=Region.wanted o (yl ops ρ):=by
  congr 1
  funext g
  exact d6a hT ρ g
 rw [hw]
 have hdo:a39 P E σ ρ w o e.v e.ws -> o.wpIn (FR rr) 9 P (Frd n ρ ds) w K Q:=fun hg=>by
  refine y9.wp (K:=fun v w'=> ∃Z' π',Rel E Z' π' (σ.app o.dst e.v e.ws) (a9j ρ o.dst v) w') ?_ ?_
  ·unfold a39 y9 at hg
   unfold y9
   rwa [b5f hT hS ho ρ]
  ·rintro v w' ⟨Z',π',hR⟩
   rw [c04]
   rw [<- hd] at hR⊢
   exact hK Z' π' _ w' hR
 have hskip:e.v= .undef -> e.ws=[] -> K ((Frd n ρ ds).put o.dst undef) w:=fun h1 h2=>by
  rw [c04]
  have hR:=h.val (d:=o.dst) (a:= .undef) (v:=undef) (Ext.refl noG w) rfl
  rw [<- hd] at hR⊢
  refine hK Z π _ w ?_
  rw [h1,h2];exact hR
 unfold gq at hq
 cases hgd:o.guard with
 | none=>
   rw [hgd] at hq
   rw [if_pos (by simp [Region.wanted,hgd])]
   exact hdo (hgood _ hq)
 | some gw=>
   obtain ⟨g,want⟩:=gw
   rw [hgd] at hq
   dsimp only at hq
   cases hgs:b99 C.ops g with
   | none=>rw [hgs] at hq;exact hq.elim
   | some t=>
     rw [hgs] at hq
     have hbd:(ops[g]?).bind (·.dst)=some t:=by
      unfold b99 at hgs
      rw [hC] at hgs
      cases hx:ops[g]? with
      | none=>rw [hx] at hgs;cases hgs
      | some og=>rw [hx] at hgs;simpa using hgs
     have hq:SX.Q.Ev σ (match σ.slot t with | .bool b=>(match b==want with | true=>q | false=> .done .undef []) | .undef=> .done .undef [] | _=> .fail) (0 ||| 2^(2*t)) e.m e.v e.ws:=hq.2
     have hslot:=h.slot t
     cases hst:σ.slot t<;>rw [hst] at hq hslot<;>try exact hq.elim
     ·-- the guard's operation was passed over itself
      obtain ⟨_,h1,h2⟩:=hq
      have hslot:ρ t=undef:=hslot
      rw [if_neg]
      ·exact ⟨fun _ _=>trivial,hskip h1 h2⟩
      ·simp [Region.wanted,hgd,yl,hbd,hslot,undef]
     ·rename_i b
      have hslot:ρ t= .bool b:=hslot
      cases hb:b==want with
      | true=>
        have hq2:q.Ev σ (0 ||| 2^(2*t)) e.m e.v e.ws:=by
         have:=hq
         simp only [hb] at this
         exact this
        rw [if_pos]
        ·exact hdo (hgood _ hq2)
        ·have:b=want:=by simpa using hb
         simp [Region.wanted,hgd,yl,hbd,hslot,this]
      | false=>
        have hq2:(.done .undef []:U.Q).Ev σ (0 ||| 2^(2*t)) e.m e.v e.ws:=by
         have:=hq
         simp only [hb] at this
         exact this
        obtain ⟨_,h1,h2⟩:=hq2
        rw [if_neg]
        ·exact ⟨fun _ _=>trivial,hskip h1 h2⟩
        ·have:b≠want:=by intro e';rw [e'] at hb;simp at hb
         simp [Region.wanted,hgd,yl,hbd,hslot,this]
theorem d35 (hU:UOK U) (hΦ:OKΦ P Φ) (hT:Plan.okTmps ops n=true) (hS:Plan.okSel ops=true) {C:RegC} (hC:C.ops=ops) {Q:Exit -> Act -> World -> Prop} {rr:Option Nat} {ds:List Deferred}: ∀(os:List Oper) (k:Nat) (σ σ':U.St) (es:List (En U)),Tr P Φ C k os σ es σ' -> (∀(j:Nat) o,os[j]? =some o -> ops[k+j]? =some o) ->
  ∀ρ0:Nat -> Value,(∀Z π ρ w,(∀t,(∀o∈ops,o.dst≠some t) -> ρ t=ρ0 t) -> Rel E Z π σ' ρ w -> Q .normal (Frd n ρ ds) w) -> ∀Z π ρ w,(∀t,(∀o∈ops,o.dst≠some t) -> ρ t=ρ0 t) -> Rel E Z π σ ρ w -> wpOpsIn (FR rr) 9 P ops.toArray Q (List.range' k os.length) (Frd n ρ ds) w
 | [],k,σ,σ',[],ht,_,ρ0,hQ,Z,π,ρ,w,hk,h=>by
   have ht:σ'=σ:=ht
   subst ht
   exact hQ Z π ρ w hk h
 | o::os,k,σ,σ',e::es,ht,hops,ρ0,hQ,Z,π,ρ,w,hk,h=>by
   rw [List.length_cons,List.range'_succ,wpOpsIn_cons]
   have ho:ops[k]? =some o:=by simpa using hops 0 o rfl
   refine d80 hU hΦ hT hS hC ho h ht.1 fun Z' π' u w' hR=> ?_
   exact d35 hU hΦ hT hS hC os (k+1) _ σ' es ht.2 (fun j o' ho'=>by have:=hops (j+1) o' (by simpa using ho');rwa [show k+(j+1)=k+1+j by omega] at this) ρ0 hQ Z' π' _ w' (fun t ht'=>by
    rw [c1v,if_neg (by rw [ht.1.1];exact ht' o (qE ho))];exact hk t ht') hR
 | [],_,_,_,_::_,h,_,_,_,_,_,_,_,_,_=>h.elim
 | _::_,_,_,_,[],h,_,_,_,_,_,_,_,_,_=>h.elim
def c17 (L:Nat -> Bool):Nat -> List (En U) -> U.St -> U.St
 | _,[],σ=>σ
 | k,e::es,σ=>c17 L (k+1) es (if L k=true then σ.app e.d e.v e.ws else σ)
theorem b5m {L:Nat -> Bool}: ∀(es:List (En U)) (k:Nat) (σ:U.St),(∀i,k <= i -> L i=false) -> c17 L k es σ=σ
 | [],_,_,_=>rfl
 | e::es,k,σ,h=>by
   simp only [c17,h k (Nat.le_refl _)]
   exact b5m es (k+1) σ fun i hi=>h i (by omega)
theorem d3d {C:RegC} {L:Nat -> Bool}: ∀(os:List Oper) (k:Nat) (σ σ':U.St) (es:List (En U)),Tr P Φ C k os σ es σ' -> (∀j,j<os.length -> L (k+j)=true) -> c17 L k es σ=σ'
 | [],k,σ,σ',[],ht,_=>by have ht:σ'=σ:=ht;rw [ht];rfl
 | o::os,k,σ,σ',e::es,ht,hL=>by
   have h0:=hL 0 (by simp)
   simp only [Nat.add_zero] at h0
   simp only [c17,h0,if_true]
   exact d3d os (k+1) _ σ' es ht.2 fun j hj=>by
    have:=hL (j+1) (by simpa using hj)
    rwa [show k+(j+1)=k+1+j by omega] at this
 | [],_,_,_,_::_,h,_=>h.elim
 | _::_,_,_,_,[],h,_=>h.elim
theorem d4x {C:RegC}: ∀(os:List Oper) (k:Nat) (σ σ':U.St) (es:List (En U)),Tr P Φ C k os σ es σ' -> ∀(j:Nat) (o:Oper) (e:En U),os[j]? =some o -> es[j]? =some e -> c3u P Φ C (k+j) o (c17 (fun i=>decide (i<k+j)) k es σ) e
 | [],k,σ,σ',[],ht,j,o,e,ho,_=>by simp at ho
 | o0::os,k,σ,σ',e0::es,ht,0,o,e,ho,he=>by
   simp at ho he
   subst ho;subst he
   rw [b5m _ _ _ fun i hi=>by simp;omega]
   exact ht.1
 | o0::os,k,σ,σ',e0::es,ht,j+1,o,e,ho,he=>by
   have:=d4x os (k+1) _ σ' es ht.2 j o e (by simpa using ho) (by simpa using he)
   have h0:decide (k<k+(j+1))=true:=by simp
   simp only [c17,h0,if_true]
   rwa [show k+1+j=k+(j+1) by omega] at this
 | [],_,_,_,_::_,h,_,_,_,_,_=>h.elim
 | _::_,_,_,_,[],h,_,_,_,_,_=>h.elim
theorem b84 {L L':Nat -> Bool} (t:Nat): ∀(es:List (En U)) (k:Nat) (σ σ':U.St),σ.slot t=σ'.slot t -> (∀(j:Nat) (e:En U),es[j]? =some e -> e.d=some t -> L (k+j)=L' (k+j)) -> (c17 L k es σ).slot t=(c17 L' k es σ').slot t
 | [],k,σ,σ',h,_=>h
 | e::es,k,σ,σ',h,hL=>by
   refine b84 t es (k+1) _ _ ?_ fun j e' he' hd=>by
    have:=hL (j+1) e' (by simpa using he') hd
    rwa [show k+(j+1)=k+1+j by omega] at this
   by_cases hd:e.d=some t
   ·have:=hL 0 e rfl hd
    simp only [Nat.add_zero] at this
    rw [this]
    split
    ·rw [p9,p9,if_pos hd,if_pos hd]
    ·exact h
   ·have h1: ∀(b:Bool) (σ:U.St),(if b=true then σ.app e.d e.v e.ws else σ).slot t=σ.slot t:=fun b σ=>by
     split
     ·rw [p9,if_neg hd]
     ·rfl
    rw [h1,h1];exact h
theorem c0r {L L':Nat -> Bool} (id:Nat): ∀(es:List (En U)) (k:Nat) (σ σ':U.St),σ.mem id=σ'.mem id -> (∀(j:Nat) (e:En U) m,es[j]? =some e -> lk id e.ws=some m -> L (k+j)=L' (k+j)) -> (c17 L k es σ).mem id=(c17 L' k es σ').mem id
 | [],k,σ,σ',h,_=>h
 | e::es,k,σ,σ',h,hL=>by
   refine c0r id es (k+1) _ _ ?_ fun j e' m he' hd=>by
    have:=hL (j+1) e' m (by simpa using he') hd
    rwa [show k+(j+1)=k+1+j by omega] at this
   cases hd:lk id e.ws with
   | some m=>
     have:=hL 0 e m rfl hd
     simp only [Nat.add_zero] at this
     rw [this]
     split
     ·rw [m5,m5,hd]
     ·exact h
   | none=>
     have h1: ∀(b:Bool) (σ:U.St),(if b=true then σ.app e.d e.v e.ws else σ).mem id=σ.mem id:=fun b σ=>by
      split
      ·rw [m5,hd]
      ·rfl
     rw [h1,h1];exact h
theorem c5j {L:Nat -> Bool} (t:Nat): ∀(es:List (En U)) (k p:Nat) (σ:U.St) (e:En U),es[p]? =some e -> L (k+p)=true -> e.d=some t -> (∀(j:Nat) (e':En U),p<j -> es[j]? =some e' -> e'.d=some t -> L (k+j)=false) -> (c17 L k es σ).slot t=e.v
 | [],k,p,σ,e,he,_,_,_=>by simp at he
 | e0::es,k,0,σ,e,he,hL,hd,hno=>by
   simp at he
   subst he
   simp only [Nat.add_zero] at hL
   simp only [c17,hL,if_true]
   rw [b84 (L':=fun _=>false) t es (k+1) _ (σ.app e0.d e0.v e0.ws) rfl fun j e' he' hd'=>by
    have:=hno (j+1) e' (by omega) (by simpa using he') hd'
    rwa [show k+(j+1)=k+1+j by omega] at this]
   rw [b5m _ _ _ fun _ _=>rfl,p9,if_pos hd]
 | e0::es,k,p+1,σ,e,he,hL,hd,hno=>by
   simp only [c17]
   refine c5j t es (k+1) p _ e (by simpa using he) (by rwa [show k+1+p=k+(p+1) by omega]) hd fun j e' hj he' hd'=> ?_
   have:=hno (j+1) e' (by omega) (by simpa using he') hd'
   rwa [show k+(j+1)=k+1+j by omega] at this
theorem c5y {L:Nat -> Bool} (id:Nat): ∀(es:List (En U)) (k p:Nat) (σ:U.St) (e:En U) (m:U.MC),es[p]? =some e -> L (k+p)=true -> lk id e.ws=some m -> (∀(j:Nat) (e':En U) m',p<j -> es[j]? =some e' -> lk id e'.ws=some m' -> L (k+j)=false) -> (c17 L k es σ).mem id=m
 | [],k,p,σ,e,m,he,_,_,_=>by simp at he
 | e0::es,k,0,σ,e,m,he,hL,hd,hno=>by
   simp at he
   subst he
   simp only [Nat.add_zero] at hL
   simp only [c17,hL,if_true]
   rw [c0r (L':=fun _=>false) id es (k+1) _ (σ.app e0.d e0.v e0.ws) rfl fun j e' m' he' hd'=>by
    have:=hno (j+1) e' m' (by omega) (by simpa using he') hd'
    rwa [show k+(j+1)=k+1+j by omega] at this]
   rw [b5m _ _ _ fun _ _=>rfl,m5,hd]
 | e0::es,k,p+1,σ,e,m,he,hL,hd,hno=>by
   simp only [c17]
   refine c5y id es (k+1) p _ e m (by simpa using he) (by rwa [show k+1+p=k+(p+1) by omega]) hd fun j e' m' hj he' hd'=> ?_
   have:=hno (j+1) e' m' (by omega) (by simpa using he') hd'
   rwa [show k+(j+1)=k+1+j by omega] at this
def b7g (acc:List Nat) (o:Oper):Nat:=o.after.toList.foldl (fun s e=>bif Region.binds .any e then s ||| 2^e.on ||| acc.getD e.on 0 else s) 0
theorem c84 {acc:List Nat} {o:Oper} {i:Nat} (h:(b7g acc o).testBit i=true): ∃x∈o.after,Region.binds .any x=true /\ (x.on=i \/ (acc.getD x.on 0).testBit i=true):=by
 have key: ∀(l:List Edge) (s:Nat),(l.foldl (fun s e=>bif Region.binds .any e then s ||| 2^e.on ||| acc.getD e.on 0 else s) s).testBit i=true -> s.testBit i=true \/ ∃x∈l,Region.binds .any x=true /\ (x.on=i \/ (acc.getD x.on 0).testBit i=true):=by
  intro l
  induction l with
  | nil=>intro s h;exact .inl h
  | cons e l ih=>
    intro s h
    rcases ih _ h with h1 | ⟨x,hx,h1⟩
    ·dsimp only at h1
     cases hb:Region.binds .any e with
     | false=>rw [hb] at h1;exact .inl h1
     | true=>
       rw [hb] at h1
       simp only [cond_true,Nat.testBit_or,Nat.testBit_two_pow,Bool.or_eq_true,decide_eq_true_eq] at h1
       rcases h1 with (h1 | h1) | h1
       ·exact .inl h1
       ·exact .inr ⟨e,qI,hb,.inl h1⟩
       ·exact .inr ⟨e,qI,hb,.inr h1⟩
    ·exact .inr ⟨x,qJ _ hx,h1⟩
 rcases key _ _ h with h1 | ⟨x,hx,h1⟩
 ·simp at h1
 ·exact ⟨x,Array.mem_toList_iff.1 hx,h1⟩
theorem d8b: ∀(os:List Oper) (acc:List Nat) (j:Nat),acc.length <= j -> j<acc.length+os.length -> ∃acc' o,os[j-acc.length]? =some o /\ (os.foldl (fun acc o=>acc++[b7g acc o]) acc).getD j 0=b7g acc' o /\ acc'.length=j /\ ∀q,q<j -> acc'.getD q 0=(os.foldl (fun acc o=>acc++[b7g acc o]) acc).getD q 0
 | [],acc,j,h1,h2=>by simp at h2;omega
 | o::os,acc,j,h1,h2=>by
   have pre: ∀(os:List Oper) (acc:List Nat) (q:Nat),q<acc.length -> (os.foldl (fun acc o=>acc++[b7g acc o]) acc).getD q 0=acc.getD q 0:=by
    intro os
    induction os with
    | nil=>intro acc q hq;rfl
    | cons o os ih=>
      intro acc q hq
      simp only [List.foldl_cons]
      rw [ih _ q (by simp;omega)]
      simp [List.getD_eq_getElem?_getD,List.getElem?_append_left hq]
   simp only [List.foldl_cons]
   rcases Nat.lt_or_ge acc.length j with hj | hj
   ·obtain ⟨acc',o',g1,g2,g3,g4⟩:=d8b os (acc++[b7g acc o]) j (by simp;omega) (by simp at h2 ⊢; omega)
    refine ⟨acc',o',?_,g2,g3,g4⟩
    simp only [qL,List.length_singleton] at g1
    rw [show j-acc.length=(j-(acc.length+1))+1 by omega]
    simpa using g1
   ·have hje:j=acc.length:=by omega
    subst hje
    refine ⟨acc,o,by simp,?_,rfl,fun q hq=> ?_⟩
    ·rw [pre _ _ _ (by simp)]
     simp [List.getD_eq_getElem?_getD]
    ·rw [pre _ _ _ (by simp;omega)]
     simp [List.getD_eq_getElem?_getD,List.getElem?_append_left hq]
theorem e16 {i j:Nat} (hj:j<ops.length) (h:((f1n ops).getD j 0).testBit i=true): ∃o,ops[j]? =some o /\ ∃x∈o.after,Region.binds .any x=true /\ (x.on=i \/ (x.on<j /\ ((f1n ops).getD x.on 0).testBit i=true)):=by
 obtain ⟨acc',o,h1,h2,h3,h4⟩:=d8b ops [] j (Nat.zero_le _) (by simpa using hj)
 have e:f1n ops=ops.foldl (fun acc o=>acc++[b7g acc o]) []:=d47 ops []
 rw [e] at h
 rw [h2] at h
 obtain ⟨x,hx,hb,hh⟩:=c84 h
 refine ⟨o,by simpa using h1,x,hx,hb,?_⟩
 rcases hh with hh | hh
 ·exact .inl hh
 ·right
  rcases Nat.lt_or_ge x.on j with hlt | hge
  ·refine ⟨hlt,?_⟩
   rw [e,<- h4 _ hlt];exact hh
  ·rw [List.getD_eq_getElem?_getD,List.getElem?_eq_none (by omega)] at hh
   simp at hh
theorem c22 {L:Nat -> Prop} (hL: ∀j o,ops[j]? =some o -> L j -> ∀x∈o.after,Region.binds .any x=true -> L x.on) (hlen: ∀j,L j -> j<ops.length): ∀(j i:Nat),j<ops.length -> (∀o,ops[j]? =some o -> ∀x∈o.after,Region.binds .any x=true -> L x.on) -> ((f1n ops).getD j 0).testBit i=true -> L i:=by
 intro j
 induction j using Nat.strongRecOn with
 | _ j ih=>
   intro i hj hp h
   obtain ⟨o,ho,x,hx,hb,hh⟩:=e16 hj h
   have hxL:=hp o ho x hx hb
   rcases hh with hh | ⟨hlt,hh⟩
   ·rw [<- hh];exact hxL
   ·exact ih x.on hlt i (hlen _ hxL) (fun o' ho'=>hL _ o' ho' hxL) hh
theorem c2n {C:RegC}: ∀(lg hist:List (Nat×Nat×Nat)),b2u C lg hist=true -> ∀(j:Nat) g,lg[j]? =some g -> d27 (C.bef.getD g.1 0) g.2.1 g.2.2 hist=true /\ ∀(i:Nat) g',i<j -> lg[i]? =some g' -> (C.bef.getD g.1 0).testBit g'.1=true \/ (g.2.2 &&& (g'.2.1 ||| g'.2.2)=0 /\ g'.2.2 &&& g.2.1=0)
 | [],hist,_,j,g,hg=>by simp at hg
 | e::lg,hist,h,0,g,hg=>by
   simp at hg
   subst hg
   simp only [b2u,qB] at h
   exact ⟨h.1,fun i g' hi=>absurd hi (Nat.not_lt_zero _)⟩
 | e::lg,hist,h,j+1,g,hg=>by
   simp only [b2u,qB] at h
   obtain ⟨h1,h2⟩:=c2n lg (e::hist) h.2 j g (by simpa using hg)
   unfold d27 at h1
   simp only [List.all_cons,qB,Bool.or_eq_true] at h1
   refine ⟨h1.2,fun i g' hi hg'=> ?_⟩
   cases i with
   | zero=>
     simp at hg'
     subst hg'
     rcases h1.1 with h3 | h3
     ·exact .inl h3
     ·exact .inr ⟨qC h3.1,qC h3.2⟩
   | succ i=>exact h2 i g' (by omega) (by simpa using hg')
end
end Go.SX
namespace Go.SX
open Go Go.PL
section
variable {P:Program} {U:Uni} {Φ:Phi U} {E:Env} {n:Nat} {ops:List Oper}
theorem d4r {a b k:Nat} (h:a &&& b=0) (ha:a.testBit k=true) (hb:b.testBit k=true):False:=by
 have:(a &&& b).testBit k=true:=by rw [Nat.testBit_and,ha,hb];rfl
 rw [h] at this;simp at this
structure LogOK (C:RegC) (es:List (En U)) (lg:List (Nat×Nat×Nat)):Prop where
 len:lg.length=es.length
 at_: ∀(j:Nat) (e:En U) (g:Nat×Nat×Nat),es[j]? =some e -> lg[j]? =some g -> g.1=j /\ Sub e.m g.2.1 /\ f6b e g.2.2
 ok:b2u C lg []=true
theorem LogOK.pair {C:RegC} {es:List (En U)} {lg:List (Nat×Nat×Nat)} (h:LogOK C es lg) {i j:Nat} {ei ej:En U} (hij:i<j) (hi:es[i]? =some ei) (hj:es[j]? =some ej):
  (C.bef.getD j 0).testBit i=true \/ ∀k,((∃m,k=2*m /\ ej.d=some m) \/ (∃id m,k=2*id+1 /\ lk id ej.ws=some m) -> ei.m.testBit k=true \/ (∃m,k=2*m /\ ei.d=some m) \/ (∃id m,k=2*id+1 /\ lk id ei.ws=some m) -> False) /\ ((∃m,k=2*m /\ ei.d=some m) \/ (∃id m,k=2*id+1 /\ lk id ei.ws=some m) -> ej.m.testBit k=true -> False):=by
 have hli:i<lg.length:=by rw [h.len];exact (qD.1 hi).1
 have hlj:j<lg.length:=by rw [h.len];exact (qD.1 hj).1
 obtain ⟨a1,a2,a3⟩:=h.at_ i ei _ hi (qG hli)
 obtain ⟨b1,b2,b3⟩:=h.at_ j ej _ hj (qG hlj)
 have hp:=(c2n lg [] h.ok j _ (qG hlj)).2 i _ hij (qG hli)
 rw [a1,b1] at hp
 have wbit: ∀{e:En U} {w k:Nat},f6b e w -> ((∃m,k=2*m /\ e.d=some m) \/ (∃id m,k=2*id+1 /\ lk id e.ws=some m)) -> w.testBit k=true:=by
  intro e w k hw hk
  rcases hk with ⟨m,rfl,hm⟩ | ⟨id,m,rfl,hm⟩
  ·exact hw.1 m hm
  ·exact hw.2 id m hm
 rcases hp with hp | ⟨h1,h2⟩
 ·exact .inl hp
 ·refine .inr fun k=>⟨fun hw hr=> ?_,fun hw hr=> ?_⟩
  ·refine d4r h1 (wbit b3 hw) ?_
   rw [Nat.testBit_or]
   rcases hr with hr | hr
   ·rw [a2 k hr];rfl
   ·rw [wbit a3 hr];simp
  ·exact d4r h2 (wbit a3 hw) (b2 k hr)
theorem e55 (hU:UOK U) (hΦ:OKΦ P Φ) (hT:Plan.okTmps ops n=true) (hS:Plan.okSel ops=true) (hA:Plan.okAfter ops=true) {C:RegC} (hC:C.ops=ops) (hB:C.bef=f1n ops) {σ0 σn:U.St} {es:List (En U)} {lg:List (Nat×Nat×Nat)} (ht:Tr P Φ C 0 ops σ0 es σn) (hlg:LogOK C es lg)
  {Q:Exit -> Act -> World -> Prop} {rr:Option Nat} {ds:List Deferred} {ρ0:Nat -> Value} (hQ: ∀Z π ρ w,(∀t,(∀o∈ops,o.dst≠some t) -> ρ t=ρ0 t) -> Rel E Z π σn ρ w -> Q .normal (Frd n ρ ds) w):
  ∀(fuel:Nat) (listed:Array Bool) (ρ:Nat -> Value) (w:World),listed.size=ops.length -> (∀l:List Nat,l.Nodup -> (∀i∈l,listed.getD i true=false) -> l.length <= fuel) ->
   (∀(j:Nat) (o:Oper),ops[j]? =some o -> listed.getD j false=true -> ∀x∈o.after,Region.binds .any x=true -> listed.getD x.on false=true) ->
   (∀t,(∀o∈ops,o.dst≠some t) -> ρ t=ρ0 t) -> (∃Z π,Rel E Z π (c17 (fun k=>listed.getD k false) 0 es σ0) ρ w) -> wpAnyIn (FR rr) 9 P .any ops.toArray Q fuel listed (Frd n ρ ds) w:=by
 have hall: ∀(listed:Array Bool),listed.size=ops.length -> Region.ready .any ops.toArray listed=[] -> ∀i,i<ops.length -> listed.getD i false=true:=by
  intro listed hsz hr i
  induction i using Nat.strongRecOn with
  | _ i ih=>
    intro hi
    cases hl:listed.getD i false with
    | true=>rfl
    | false=>
      exfalso
      have hi':i<listed.size:=by omega
      have hm:i∈Region.ready .any ops.toArray listed:=by
       rw [mem_ready]
       refine ⟨by simp [hi'] at hl ⊢; exact hl,ops[i],by simp [hi],fun x hx hb=> ?_⟩
       have h1:=e0u hA hi
       rw [qG hi] at h1
       have h2:=List.all_eq_true.1 h1 x (Array.mem_toList_iff.2 hx)
       simp only [hb,Bool.not_true,Bool.false_or,decide_eq_true_eq] at h2
       exact ih x.on h2 (by omega)
      rw [hr] at hm
      cases hm
 have hend: ∀(listed:Array Bool) (ρ:Nat -> Value) (w:World),listed.size=ops.length -> Region.ready .any ops.toArray listed=[] ->
   (∀t,(∀o∈ops,o.dst≠some t) -> ρ t=ρ0 t) -> (∃Z π,Rel E Z π (c17 (fun k=>listed.getD k false) 0 es σ0) ρ w) -> Q .normal (Frd n ρ ds) w:=by
  rintro listed ρ w hsz hr hk ⟨Z,π,hR⟩
  rw [d3d ops 0 σ0 σn es ht fun j hj=>by simpa using hall listed hsz hr j hj] at hR
  exact hQ Z π ρ w hk hR
 intro fuel
 induction fuel with
 | zero=>
   intro listed ρ w hsz hlen hcl hk hJ
   have hr:Region.ready .any ops.toArray listed=[]:=by
    cases hr:Region.ready .any ops.toArray listed with
    | nil=>rfl
    | cons x xs=>
      have hx:x∈Region.ready .any ops.toArray listed:=by rw [hr];simp
      have:=hlen [x] (by simp) (by simpa using (mem_ready.1 hx).1)
      simp at this
   exact ⟨hr,hend listed ρ w hsz hr hk hJ⟩
 | succ fuel ih=>
   intro listed ρ w hsz hlen hcl hk hJ
   refine ⟨fun hr=>hend listed ρ w hsz hr hk hJ,fun i hi=> ?_⟩
   obtain ⟨hun,o,ho,haft⟩:=mem_ready.1 hi
   have ho':ops[i]? =some o:=by simpa using ho
   have hilt:i<ops.length:=(qD.1 ho').1
   have hil:i<listed.size:=by rw [hsz];exact hilt
   have hunl:listed.getD i false=false:=by simp [hil] at hun ⊢; exact hun
   obtain ⟨Z,π,hR⟩:=hJ
   have hilt':i<es.length:=by rw [ht.len];exact hilt
   obtain ⟨e,he⟩: ∃e,es[i]? =some e:=⟨es[i],qG hilt'⟩
   have hex:=d4x ops 0 σ0 σn es ht i o e ho' he
   rw [Nat.zero_add] at hex
   have hblt: ∀j,listed.getD j false=true -> j<ops.length:=fun j hj=>by
    rcases Nat.lt_or_ge j listed.size with h1 | h1
    ·omega
    ·simp [Array.getD,Nat.not_lt.2 h1] at hj
   have hpre: ∀j,(C.bef.getD i 0).testBit j=true -> listed.getD j false=true:=fun j hj=>by
    rw [hB] at hj
    refine c22 (L:=fun k=>listed.getD k false=true) hcl hblt i j hilt (fun o' ho''=> ?_) hj
    rw [ho'] at ho'';cases ho''
    intro x hx hb
    exact haft x hx hb
   have hpost: ∀j,j<ops.length -> (C.bef.getD j 0).testBit i=true -> listed.getD j false=false:=fun j hj hb=>by
    cases hl:listed.getD j false with
    | false=>rfl
    | true=>
      rw [hB] at hb
      have:=c22 (L:=fun k=>listed.getD k false=true) hcl hblt j i hj (fun o' ho''=>hcl j o' ho'' hl) hb
      rw [hunl] at this;cases this
   have hjlt: ∀(j:Nat) (e':En U),es[j]? =some e' -> j<ops.length:=fun j e' h=>by rw [<- ht.len];exact (qD.1 h).1
   have hagr:f4u (c17 (fun k=>decide (k<i)) 0 es σ0) (c17 (fun k=>listed.getD k false) 0 es σ0) e.m:=by
    have main: ∀(k j:Nat) (e':En U),es[j]? =some e' -> ((∃m,k=2*m /\ e'.d=some m) \/ (∃id m,k=2*id+1 /\ lk id e'.ws=some m)) -> e.m.testBit k=true -> listed.getD j false=decide (j<i):=by
     intro k j e' hj hw hr
     rcases Nat.lt_trichotomy j i with hlt | heq | hgt
     ·rcases hlg.pair hlt hj he with h1 | h1
      ·rw [hpre j h1];simp [hlt]
      ·exact ((h1 k).2 hw hr).elim
     ·rw [heq,hunl];simp
     ·rcases hlg.pair hgt he hj with h1 | h1
      ·rw [hpost j (hjlt j e' hj) h1];simp;omega
      ·exact ((h1 k).1 hw (.inl hr)).elim
    refine ⟨fun t hb=>b84 t es 0 σ0 σ0 rfl fun j e' hj hd=> ?_,fun id hb=>c0r id es 0 σ0 σ0 rfl fun j e' m hj hd=> ?_⟩
    ·rw [Nat.zero_add];exact main (2*t) j e' hj (.inl ⟨t,rfl,hd⟩) hb
    ·rw [Nat.zero_add];exact main (2*id+1) j e' hj (.inr ⟨id,m,rfl,hd⟩) hb
   have hstep:c3u P Φ C i o (c17 (fun k=>listed.getD k false) 0 es σ0) e:=by
    refine ⟨hex.1,?_⟩
    rcases hex.2 with h1 | h1
    ·exact .inl (d2w h1 hagr)
    ·exact .inr (d2w h1 hagr)
   refine d80 hU hΦ hT hS hC ho' hR hstep fun Z' π' u w' hR'=> ?_
   have heq: ∀k,(listed.setIfInBounds i true).getD k false=if k=i then true else listed.getD k false:=by
    intro k
    by_cases hk:k=i
    ·subst hk;simp [hil]
    ·rw [getD_set_ne false (Ne.symm hk)];simp [hk]
   have hww: ∀(k j:Nat) (e':En U),i<j -> es[j]? =some e' -> ((∃m,k=2*m /\ e'.d=some m) \/ (∃id m,k=2*id+1 /\ lk id e'.ws=some m)) -> ((∃m,k=2*m /\ e.d=some m) \/ (∃id m,k=2*id+1 /\ lk id e.ws=some m)) -> listed.getD j false=false:=by
    intro k j e' hlt hj hw hw2
    rcases hlg.pair hlt he hj with h1 | h1
    ·exact hpost j (hjlt j e' hj) h1
    ·exact ((h1 k).1 hw (.inr hw2)).elim
   have hless:d61 (c17 (fun k=>(listed.setIfInBounds i true).getD k false) 0 es σ0) ((c17 (fun k=>listed.getD k false) 0 es σ0).app e.d e.v e.ws):=by
    refine ⟨fun t=> .inr ?_,fun id=> ?_⟩
    ·rw [p9]
     split
     ·rename_i hd
      rw [c5j t es 0 i σ0 e he (by rw [Nat.zero_add,heq];simp) hd fun j e' hj he' hd'=> ?_]
      rw [Nat.zero_add,heq,if_neg (by omega)]
      exact hww (2*t) j e' hj he' (.inl ⟨t,rfl,hd'⟩) (.inl ⟨t,rfl,hd⟩)
     ·rename_i hd
      refine b84 t es 0 σ0 σ0 rfl fun j e' hj hd'=> ?_
      rw [Nat.zero_add,heq,if_neg]
      intro hji
      subst hji
      rw [he] at hj;cases hj
      exact hd hd'
    ·rw [m5]
     cases hd:lk id e.ws with
     | some m=>
       refine (c5y id es 0 i σ0 e m he (by rw [Nat.zero_add,heq];simp) hd fun j e' m' hj he' hd'=> ?_).symm
       rw [Nat.zero_add,heq,if_neg (by omega)]
       exact hww (2*id+1) j e' hj he' (.inr ⟨id,m',rfl,hd'⟩) (.inr ⟨id,m,rfl,hd⟩)
     | none=>
       refine (c0r id es 0 σ0 σ0 rfl fun j e' m' hj hd'=> ?_).symm
       rw [Nat.zero_add,heq,if_neg]
       intro hji
       subst hji
       rw [he] at hj;cases hj
       rw [hd] at hd';cases hd'
   refine ih _ _ _ (by simpa using hsz) (fun l hnd hl=> ?_) (fun j o' hoj hlj x hx hb=> ?_) (fun t ht'=>by
    rw [c1v,if_neg (by rw [hstep.1];exact ht' o (qE ho'))];exact hk t ht') ⟨Z',π',hR'.congr hless⟩
   ·have h1:=hlen (i::l) (by
     refine List.nodup_cons.2 ⟨fun hm=> ?_,hnd⟩
     have:=hl i hm
     simp [hil] at this) (by
     intro j hj
     cases hj with
     | head=>exact hun
     | tail _ hj=>
       have h2:=hl j hj
       by_cases hji:j=i
       ·subst hji;exact hun
       ·rwa [getD_set_ne true (Ne.symm hji)] at h2)
    simpa using h1
   ·rw [heq] at hlj⊢
    split
    ·rfl
    ·split at hlj
     ·rename_i hji
      subst hji
      rw [ho'] at hoj;cases hoj
      exact haft x hx hb
     ·exact hcl j o' hoj hlj x hx hb
theorem d98 (hU:UOK U) (hΦ:OKΦ P Φ) (hm:P.follows .mixedOrders=true) (hT:Plan.okTmps ops n=true) (hS:Plan.okSel ops=true) (hA:Plan.okAfter ops=true) {id:Nat} {draw:Bool} {R:Type} {σ:U.St} {K:U.St -> Option R} {r:R} {sp:List Nat} (h:c9v P Φ sp ops draw σ K=some r)
  {Q:Exit -> (Nat -> Value) -> World -> Prop} {Z:Nat -> Prop} {π:Nat -> Value} {ρ:Nat -> Value} {w:World} (hK: ∀σ' Z π ρ' w,(∀t,(∀o∈ops,o.dst≠some t) -> ρ' t=ρ t) -> Rel E Z π σ' ρ' w -> K σ'=some r -> Q .normal ρ' w) (hR:Rel E Z π σ ρ w):WP P n (.region id ops.toArray draw) Q ρ w:=by
 obtain ⟨C,hC⟩: ∃C:RegC,C=⟨σ.nx,ops,befD ops draw,draw,σ.nx+16*ops.length,sp⟩:=⟨_,rfl⟩
 have hrun:b22 P Φ C (ops.length+1) (b0f 0 ops) [] [] σ (fun _ σ'=>K ⟨σ'.sl,σ'.me,σ.nx+16*ops.length⟩)=some r:=by rw [hC];exact h
 obtain ⟨es,σx,σe,hist,h1,h2,h3,h4,⟨lg,h5,h6,h7,h8⟩,hkp⟩:=a7b _ 0 ops [] [] σ _ r hrun (fun j o ho=>by rw [hC,Nat.zero_add];exact ho) σ ⟨fun t=> .inr rfl,fun _=>rfl⟩ b6i.nil
 have hops:C.ops=ops:=by rw [hC]
 intro rr ds _
 have hfin: ∀Z π ρ1 w,(∀t,(∀o∈ops,o.dst≠some t) -> ρ1 t=ρ t) -> Rel E Z π σx ρ1 w -> (∃ρ',Frd n ρ1 ds=Frd n ρ' ds /\ Q .normal ρ' w):=fun Z π ρ1 w hk hR=>by
  refine ⟨ρ1,rfl,hK ⟨σe.sl,σe.me,σ.nx+16*ops.length⟩ Z π ρ1 w hk (Rel.congr hR (σ':=⟨σe.sl,σe.me,σ.nx+16*ops.length⟩) ⟨fun t=> ?_,fun id=> ?_⟩) h4⟩
  ·exact h2.1 t
  ·exact h2.2 id
 cases draw with
 | false=>
   refine wpIn_region ?_
   have:=d35 (n:=n) (rr:=rr) (ds:=ds) (Q:=fun e a w=> ∃ρ',a=Frd n ρ' ds /\ Q e ρ' w) hU hΦ hT hS hops ops 0 σ σx es h1 (fun j o ho=>by rw [Nat.zero_add];exact ho) ρ hfin Z π ρ w (fun _ _=>rfl) hR
   rw [List.range_eq_range']
   simpa using this
 | true=>
   refine wpIn_region_any hm ?_
   have hdraw:C.draw=true:=by rw [hC]
   have:=e55 (n:=n) (rr:=rr) (ds:=ds) (Q:=fun e a w=> ∃ρ',a=Frd n ρ' ds /\ Q e ρ' w) hU hΦ hT hS hA hops (by rw [hC];rfl) h1 ⟨h7,fun j e g he hg=>by have:=h8 j e g he hg;rwa [Nat.zero_add] at this,h6 hdraw⟩ (ρ0:=ρ) hfin
    ops.length (Array.replicate ops.length false) ρ w.drew (by simp) (fun l hnd hl=>by
     have hlt: ∀i∈l,i<ops.length:=by
      intro i hi
      have h1:=hl i hi
      rcases Nat.lt_or_ge i ops.length with h2 | h2
      ·exact h2
      ·simp [h2] at h1
     exact b5p _ l hnd hlt) (fun j o ho hl=>by
      exfalso
      rcases Nat.lt_or_ge j ops.length with h2 | h2
      ·simp [h2] at hl
      ·simp [h2] at hl) (fun _ _=>rfl) ⟨Z,π,by
      rw [b5m _ _ _ fun i _=>by
       rcases Nat.lt_or_ge i ops.length with h2 | h2
       ·simp [h2]
       ·simp [h2]]
      have hv:=hR.val (d:=none) (a:= .unk) (v:=undef) (w':=w.drew) (Ext.refl noG w).drew trivial
      exact hv⟩
   rw [show ops.toArray.size=ops.length from List.size_toArray]
   exact this
end
end Go.SX
namespace Go.SX
open Go Go.PL
section
variable {P:Program} {U:Uni} {Φ:Phi U} {E:Env} {n:Nat}
theorem d5r {p:EK U.C}: ∀(es:List (EK U.C)) (x:p.T U) (xs:Keep U es),a8f es (f0q es x xs)=x
 | [],_,_=>rfl
 | _::_,_,_=>rfl
theorem d6q {p:EK U.C}: ∀(es:List (EK U.C)) (x:p.T U) (xs:Keep U es),a5g es (f0q es x xs)=xs
 | [],_,()=>rfl
 | _::_,_,_=>rfl
theorem a5e {p:EK U.C} {es:List (EK U.C)} {x:Option (p.T U)} {y:Option (Keep U es)} {r:Keep U (p::es)} (h:d0t es x y=some r):x=some (a8f es r) /\ y=some (a5g es r):=by
 unfold d0t at h
 split at h
 ·split at h
  ·cases h;rw [d5r,d6q];exact ⟨rfl,rfl⟩
  ·cases h
 ·cases h
theorem a1i {α β:Type} {x:Option α} {y:Option β} {r:α×β} (h:c42 x y=some r):x=some r.1 /\ y=some r.2:=by
 unfold c42 at h
 split at h
 ·split at h
  ·cases h;exact ⟨rfl,rfl⟩
  ·cases h
 ·cases h
theorem c4r (hU:UOK U) {c:U.C} {a:U.AV} {x:U.T c} (hp:prj c a=some x):b5i a=true:=by
 cases a<;>first
  | rfl
  | (exfalso
     unfold prj at hp
     cases hag:U.ag c<;>rw [hag] at hp<;>try (cases hp;done)
     have hk:=hU.mkl c _ x hp
     have hkd:=hU.kind c x
     cases hl:U.flds c x with
     | nil=>rw [hl] at hk;exact hk.elim
     | cons b r=>
       rw [hl] at hk hkd
       simp only [List.all_cons,qB] at hkd
       rcases hk.1 with h1 | ⟨h1,_⟩
       ·rw [<- h1] at hkd;cases hkd.1
       ·cases h1)
theorem d93 {X:Cx} {c:U.C} {a:U.AV} {l:List (U.T c)} (h:f0x c a=some l) {u:Value} (hr:AVR X a u):j5 (Rp c) X.G X.w u l:=by
 unfold f0x at h
 split at h
 ·obtain ⟨he,hx⟩:=a2b (G:=noG) (w:=X.w) h
  subst he;subst hx;exact hr
 ·cases h
  exact .inl ⟨hr,rfl⟩
 ·cases h
theorem e1e {E:Env} {Z:Nat -> Prop} {π:Nat -> Value} {σ:U.St} {ρ:Nat -> Value} {w:World} (h:Rel E Z π σ ρ w) {c:U.C} {t:Nat} {l:List (U.T c)} (hl:f04 σ c (σ.slot t)=some l):j5 (Rp c) (cx Z π σ w).G (cx Z π σ w).w (ρ t) l:=by
 have hs:=h.slot t
 unfold f04 at hl
 split at hl
 ·rename_i id hsl
  rw [hsl] at hs
  split at hl
  ·rename_i c' l' hm
   have hm':=h.mem id
   rw [hm] at hm'
   obtain ⟨he,hx⟩:=a2b (G:=noG) (w:=w) hl
   subst he;subst hx
   rw [show ρ t=π id from hs.2.1]
   exact hm'
  ·cases hl
 ·exact d93 hl hs
structure KeepOK (Z:Nat -> Prop) (π:Nat -> Value) (σ:U.St) (ρ:Nat -> Value) (w:World) (ren:List (Nat×Nat)) (ids:List Nat) (σ':U.St) (π':Nat -> Value):Prop where
 slot: ∀X':Cx,X'.Z=Z -> X'.w=w -> X'.π=π' -> (∀id,id∈ids \/ (∃q∈ren,q.2=id) -> X'.us id) -> ∀t,AVR X' (σ'.slot t) (ρ t)
 mem: ∀X':Cx,X'.Z=Z -> X'.w=w -> X'.π=π' -> (∀id,id∈ids \/ (∃q∈ren,q.2=id) -> X'.us id) -> ∀id,MR X' (σ'.mem id) (π' id)
 own: ∀id b,MB (σ'.mem id) (π' id) b -> id∈ids /\ ∃old,(∀q∈ren,q.1≠old) /\ MB (σ.mem old) (π old) b
 dist: ∀id id' b,id≠id' -> MB (σ'.mem id) (π' id) b -> ¬MB (σ'.mem id') (π' id') b
 us: ∀id∈ids,σ'.mem id≠ .never
theorem e5h {Z:Nat -> Prop} {π:Nat -> Value} {σ:U.St} {ρ:Nat -> Value} {w:World} (h:Rel E Z π σ ρ w) {a:U.AV} {u:Value} (ha:b37 (cx Z π σ w) a u):b37 (cx Z π σ w) (e8j σ a) u:=by
 cases a<;>try exact ha
 rename_i id
 simp only [e8j]
 split
 ·rename_i c l hm
  have hmm:=h.mem id
  rw [hm] at hmm
  obtain ⟨_,hu,_⟩:=ha
  show j5 (Rp c) _ _ u l
  rw [hu];exact hmm
 ·exact ha
theorem d8t {σ:U.St} (a:U.AV):u9 (e8j σ a)=u9 a:=by
 cases a<;>try rfl
 simp only [e8j]
 split<;>rfl
theorem d5g {σ:U.St} {a:U.AV} (h:u7 a=true):u7 (e8j σ a)=true:=by
 cases a<;>try exact h
 simp only [e8j]
 split<;>rfl
theorem e21 {Z:Nat -> Prop} {π:Nat -> Value} {σ:U.St} {ρ:Nat -> Value} {w:World} (h:Rel E Z π σ ρ w) {a:U.AV} {u:Value} (ha:a18 (cx Z π σ w) a u):a18 (cx Z π σ w) (stF σ a) u:=by
 cases a<;>try exact ha
 rename_i c fs
 obtain ⟨css,hu,hlay,hp,hr⟩:=ha
 refine ⟨css,hu,?_,?_,?_⟩
 ·rw [<- hlay,List.map_map];exact List.map_congr_left fun a _=>d8t a
 ·rw [List.all_eq_true] at hp⊢
  intro a ha
  obtain ⟨b,hb,rfl⟩:=List.mem_map.1 ha
  exact d5g (hp b hb)
 ·clear hu hlay hp
  induction fs generalizing css with
  | nil=>cases css with
    | nil=>trivial
    | cons _ _=>exact hr.elim
  | cons a fs ih=>cases css with
    | nil=>exact hr.elim
    | cons s css=>
      obtain ⟨u,hu,h1⟩:=hr.1
      exact ⟨⟨u,hu,e5h h h1⟩,ih css hr.2⟩
theorem d2c {σ:U.St}: ∀fs:List U.AV,FZ σ (e6o σ fs)
 | [],id,m,h=>by cases h
 | a::fs,id,m,h=>by
   have skip:(id,m)∈e6o σ fs -> ∃e c l,σ.mem id= .sl e c l /\ m= .fz c l:=fun h=>d2c fs id m h
   cases a<;>try exact skip h
   rename_i id'
   simp only [e6o] at h
   split at h
   ·rename_i e c l hm
    rcases qO.1 h with h | h
    ·cases h;exact ⟨e,c,l,hm,rfl⟩
    ·exact skip h
   ·exact skip h
theorem a8y {i:Nat} {l:List Nat} (h:b9k (i::l)=true):i∉l /\ b9k l=true:=by
 simp only [b9k,qB,Bool.not_eq_true'] at h
 refine ⟨fun hm=> ?_,h.2⟩
 have:(l.any (Nat.beq i))=true:=List.any_eq_true.2 ⟨i,hm,Nat.beq_refl i⟩
 rw [h.1] at this;cases this
theorem f0e {ren al:List (Nat×Nat)} {σ:U.St} (h:alOK ren σ al=true) {t id:Nat} (hm:(t,id)∈al): ∃id',σ.slot t= .ref id' /\ (id',id)∈ren:=by
 have h1:=List.all_eq_true.1 h _ hm
 dsimp only at h1
 split at h1
 ·rename_i id' hs
  obtain ⟨q,hq,hq2⟩:=List.any_eq_true.1 h1
  simp only [qB] at hq2
  have e1:=qC hq2.1
  have e2:=qC hq2.2
  refine ⟨id',hs,?_⟩
  rw [<- e1,<- e2];exact hq
 ·cases h1
theorem e8e {l:List (Nat×U.AV)} {me:List (Nat×U.MC)} {nx t:Nat}:(∃a,(t,a)∈l /\ St.slot ⟨l,me,nx⟩ t=a) \/ St.slot ⟨l,me,nx⟩ t= .unk:=by
 simp only [St.slot]
 cases hl:lk t l with
 | none=>exact .inr rfl
 | some a=>exact .inl ⟨a,a98 hl,rfl⟩
theorem c15 {Z:Nat -> Prop} {π:Nat -> Value} {σ:U.St} {ρ:Nat -> Value} {w:World} (h:Rel E Z π σ ρ w) {pins:List Nat} {ren ren':List (Nat×Nat)} {ids:List Nat} {id:Nat} {σr σ':U.St} {π0 π':Nat -> Value} {hv:Value} {mc:U.MC}
  (hni:id∉ids) (g1: ∀i,i∉ids -> π' i=b52 π0 id hv i) (g2:KeepOK Z π σ ρ w ren' ids σr π') (g3: ∀i∈pins,π' i=π i /\ (i∈ids \/ ∃q∈ren',q.2=i))
  (hr1: ∀q∈ren',q∈ren \/ (q.2=id /\ hv=π q.1)) (hr2: ∀q∈ren,q∈ren') (e0: ∀i,σ'.mem i=if id=i then mc else σr.mem i) (hnn:mc≠ .never)
  (hMR: ∀X':Cx,X'.Z=Z -> X'.w=w -> X'.π=π' -> (∀i,i∈ids \/ (∃q∈ren',q.2=i) -> X'.us i) -> MR X' mc hv) (hMB: ∀b,MB mc hv b -> ∃old,(∀q∈ren,q.1≠old) /\ (∃q∈ren',q.1=old) /\ MB (σ.mem old) (π old) b)
  (hsl: ∀t,σ'.slot t=σr.slot t \/ (σ'.slot t= .ref id /\ ρ t=hv /\ hv.oneCell'=true)):
  (∀i,i∉id::ids -> π' i=π0 i) /\ KeepOK Z π σ ρ w ren (id::ids) σ' π' /\ (∀i∈pins,π' i=π i /\ (i∈id::ids \/ ∃q∈ren,q.2=i)):=by
 have hid:π' id=hv:=by rw [g1 id hni,b52,if_pos rfl]
 have hus': ∀{us:Nat -> Prop},(∀i,i∈id::ids \/ (∃q∈ren,q.2=i) -> us i) -> ∀i,i∈ids \/ (∃q∈ren',q.2=i) -> us i:=fun hus i hi=>by
  rcases hi with hi | ⟨q,hq,hq2⟩
  ·exact hus i (.inl (qJ _ hi))
  ·rcases hr1 q hq with h1 | ⟨h1,_⟩
   ·exact hus i (.inr ⟨q,h1,hq2⟩)
   ·exact hus i (.inl (by rw [<- hq2,h1];exact qI))
 refine ⟨fun i hi=> ?_,⟨fun X' e1 e2 e3 hus t=> ?_,fun X' e1 e2 e3 hus i=> ?_,fun i b hb=> ?_,fun i1 i2 b hne hb hb'=> ?_,fun i hi=> ?_⟩,fun i hi=> ?_⟩
 ·simp only [qO,not_or] at hi
  rw [g1 i hi.2,b52,if_neg hi.1]
 ·rcases hsl t with e | ⟨e,hρ,hone⟩
  ·rw [e];exact g2.slot X' e1 e2 e3 (hus' hus) t
  ·rw [e]
   exact ⟨hus id (.inl qI),by rw [e3,hid];exact hρ,by rw [hρ];exact hone⟩
 ·rw [e0]
  split
  ·rename_i e';subst e'
   rw [hid];exact hMR X' e1 e2 e3 (hus' hus)
  ·exact g2.mem X' e1 e2 e3 (hus' hus) i
 ·rw [e0] at hb
  split at hb
  ·rename_i e';subst e'
   rw [hid] at hb
   obtain ⟨old,h1,_,h2⟩:=hMB b hb
   exact ⟨qI,old,h1,h2⟩
  ·obtain ⟨h1,old,h2,h3⟩:=g2.own i b hb
   exact ⟨qJ _ h1,old,fun q hq=>h2 q (hr2 q hq),h3⟩
 ·rw [e0] at hb hb'
  split at hb
  ·rename_i e1;subst e1
   rw [if_neg hne] at hb'
   rw [hid] at hb
   obtain ⟨old,_,⟨q,hq,hq2⟩,h3⟩:=hMB b hb
   obtain ⟨_,old',h2,h4⟩:=g2.own i2 b hb'
   exact h.dist old old' b (fun e=>h2 q hq (by rw [hq2,e])) h3 h4
  ·split at hb'
   ·rename_i e1 e2;subst e2
    rw [hid] at hb'
    obtain ⟨old,_,⟨q,hq,hq2⟩,h3⟩:=hMB b hb'
    obtain ⟨_,old',h2,h4⟩:=g2.own i1 b hb
    exact h.dist old old' b (fun e=>h2 q hq (by rw [hq2,e])) h3 h4
   ·exact g2.dist i1 i2 b hne hb hb'
 ·rw [e0]
  split
  ·exact hnn
  ·rename_i hne
   rcases qO.1 hi with h1 | h1
   ·exact absurd h1.symm hne
   ·exact g2.us i h1
 ·obtain ⟨h1,h2⟩:=g3 i hi
  refine ⟨h1,?_⟩
  rcases h2 with h2 | ⟨q,hq,hq2⟩
  ·exact .inl (qJ _ h2)
  ·rcases hr1 q hq with h3 | ⟨h3,_⟩
   ·exact .inr ⟨q,h3,hq2⟩
   ·exact .inl (by rw [<- hq2,h3];exact qI)
theorem d9r (hU:UOK U) {X X':Cx} (e1:X'.Z=X.Z) (e2:X'.w=X.w): ∀{cs:List U.C} {as:List U.AV} {x:CapT U cs} {vs:List Value},f6a cs as=some x -> m7 (a18 X) as vs -> m7 (a18 X') (e2s cs x) vs
 | [],[],_,[],_,_=>trivial
 | [],[],_,_::_,_,h=>h.elim
 | [],_::_,_,_,hd,_=>by cases hd
 | _::_,[],_,_,hd,_=>by cases hd
 | c::cs,a::as,x,[],_,h=>h.elim
 | c::cs,a::as,x,v::vs,hd,h=>by
   cases a with
   | rp b=>
     have hd:(match prj c b with | some x=>(match f6a cs as with | some xs=>some (x,xs) | none=>none) | none=>none)=some x:=hd
     split at hd
     ·rename_i y hp
      split at hd
      ·rename_i ys hq
       obtain rfl:=qH hd
       obtain ⟨⟨ad,ks,hv,hb,hg,hca,hr⟩,h4⟩:=h
       obtain ⟨u1,hu1,hr1⟩:=a0k hr
       have h3:=b3t hU hp hr1
       rw [hu1] at h3
       refine ⟨⟨ad,ks,hv,by rw [e2];exact hb,by unfold Cx.G;rw [e1];exact hg,by rw [e2];exact hca,?_⟩,d9r hU e1 e2 hq h4⟩
       unfold Cx.G;rw [e1,e2];exact b2z hU h3
      ·cases hd
     ·cases hd
   | _=>cases hd
theorem e29 {X X':Cx} {ren:List (Nat×Nat)} (hr: ∀q∈ren,X'.us q.2 /\ X'.π q.2=X.π q.1): ∀{as:List U.AV} {is:List Nat} {vs:List Value},d2x ren as is=true -> m7 (a18 X) as vs -> m7 (a18 X') (is.map (AV.ref:Nat -> U.AV)) vs
 | [],[],[],_,_=>trivial
 | .ref j::as,i::is,v::vs,h,ha=>by
   simp only [d2x,qB] at h
   obtain ⟨q,hq,hq2⟩:=List.any_eq_true.1 h.1
   simp only [qB] at hq2
   have e1:=qC hq2.1
   have e2:=qC hq2.2
   obtain ⟨h1,h2⟩:=hr q hq
   refine ⟨⟨by rw [<- e2];exact h1,?_,ha.1.2.2⟩,e29 hr h.2 ha.2⟩
   show v=X'.π i
   rw [<- e2,h2,e1];exact ha.1.2.1
 | [],_::_,_,h,_=>by cases h
 | [],[],_::_,_,ha=>ha.elim
 | a::_,[],_,h,_=>by cases a<;>cases h
 | _::_,_::_,[],_,ha=>ha.elim
theorem b11 (hU:UOK U) {Z:Nat -> Prop} {π:Nat -> Value} {σ:U.St} {ρ:Nat -> Value} {w:World} (h:Rel E Z π σ ρ w) {pins:List Nat} {al:List (Nat×Nat)}: ∀(es:List (EK U.C)) (ren:List (Nat×Nat)) (s:Keep U es) (π0:Nat -> Value),b8t pins al es ren σ=some s -> b9k (b0j es)=true -> (∀q∈ren,q.2∉b0j es) -> (∀q∈ren,π0 q.2=π q.1) ->
  ∃π':Nat -> Value,(∀id,id∉b0j es -> π' id=π0 id) /\ KeepOK Z π σ ρ w ren (b0j es) (b2d al es s) π' /\ (∀i∈pins,π' i=π i /\ (i∈b0j es \/ ∃q∈ren,q.2=i))
 | [],ren,s,π0,hd,_,_,hπ0=>by
   simp only [b8t] at hd
   split at hd
   ·rename_i hp
    simp only [qB] at hp
    refine ⟨π0,fun _ _=>rfl,⟨fun X' e1 e2 e3 hus t=> ?_,fun _ _ _ _ _ _=>trivial,fun _ _ h=>h.elim,fun _ _ _ _ h=>h.elim,fun _ h=>by cases h⟩,fun i hi=> ?_⟩
    ·rcases e8e (l:=al.map fun a=>(a.1,(.ref a.2:U.AV))) (me:=[]) (nx:=al.foldl (fun m a=>max m (a.2+1)) 0) (t:=t) with ⟨a,ha,he⟩ | he
     ·obtain ⟨⟨t',id⟩,hm,e⟩:=List.mem_map.1 ha
      simp only [Prod.mk.injEq] at e
      obtain ⟨rfl,rfl⟩:=e
      obtain ⟨id',hs,hr⟩:=f0e hp.2 hm
      have hst:=h.slot t'
      rw [hs] at hst
      show AVR X' (St.slot ⟨_,_,_⟩ t') _
      rw [he]
      refine ⟨hus id (.inr ⟨_,hr,rfl⟩),?_,hst.2.2⟩
      rw [e3,hπ0 _ hr];exact hst.2.1
     ·show AVR X' (St.slot ⟨_,_,_⟩ t) _
      rw [he];trivial
    ·obtain ⟨q,hq,hq2⟩:=List.any_eq_true.1 (List.all_eq_true.1 hp.1 i hi)
     simp only [qB] at hq2
     have h1:=qC hq2.1
     have h2:=qC hq2.2
     refine ⟨?_,.inr ⟨q,hq,h2⟩⟩
     have:=hπ0 q hq
     rwa [h1,h2] at this
   ·cases hd
 | .v t c::es,ren,s,π0,hd,hn,hren,hπ0=>by
   obtain ⟨h1,h2⟩:=a5e hd
   obtain ⟨π',g1,g2,g3⟩:=b11 hU h es ren (a5g es s) π0 h2 hn hren hπ0
   refine ⟨π',g1,⟨fun X' e1 e2 e3 hus t'=> ?_,g2.mem,g2.own,g2.dist,g2.us⟩,g3⟩
   show AVR X' (St.slot ⟨(t,inj c (a8f es s))::(b2d al es (a5g es s)).sl,_,_⟩ t') _
   rw [s9]
   split
   ·rename_i e;subst e
    have hs:=h.slot t
    exact AVR.of1 (a84 (a15 hU c (a8f es s)).1 (b7e hU h1 (a6k (c4r hU h1) hs)) e2 (by rw [e1];exact fun _ h=>h))
   ·exact g2.slot X' e1 e2 e3 hus t'
 | .ls t c::es,ren,s,π0,hd,hn,hren,hπ0=>by
   obtain ⟨h1,h2⟩:=a5e hd
   obtain ⟨π',g1,g2,g3⟩:=b11 hU h es ren (a5g es s) π0 h2 hn hren hπ0
   refine ⟨π',g1,⟨fun X' e1 e2 e3 hus t'=> ?_,g2.mem,g2.own,g2.dist,g2.us⟩,g3⟩
   show AVR X' (St.slot ⟨(t,.list c (a8f es s))::(b2d al es (a5g es s)).sl,_,_⟩ t') _
   rw [s9]
   split
   ·rename_i e;subst e
    have:=e1e h h1
    show j5 (Rp c) X'.G X'.w _ _
    unfold Cx.G;rw [e1,e2];exact this
   ·exact g2.slot X' e1 e2 e3 hus t'
 | .rp t c::es,ren,s,π0,hd,hn,hren,hπ0=>by
   simp only [b8t] at hd
   split at hd
   ·rename_i b hsl
    obtain ⟨h1,h2⟩:=a5e hd
    obtain ⟨π',g1,g2,g3⟩:=b11 hU h es ren (a5g es s) π0 h2 hn hren hπ0
    refine ⟨π',g1,⟨fun X' e1 e2 e3 hus t'=> ?_,g2.mem,g2.own,g2.dist,g2.us⟩,g3⟩
    show AVR X' (St.slot ⟨(t,.rp (inj c (a8f es s)))::(b2d al es (a5g es s)).sl,_,_⟩ t') _
    rw [s9]
    split
    ·rename_i e;subst e
     have hs:=h.slot t
     rw [hsl] at hs
     obtain ⟨ad,cs,hv,hb,hg,hca,hr⟩:=hs
     obtain ⟨u1,hu1,hr1⟩:=a0k hr
     have h3:=b3t hU h1 hr1
     rw [hu1] at h3
     refine ⟨ad,cs,hv,by rw [e2];exact hb,by unfold Cx.G;rw [e1];exact hg,by rw [e2];exact hca,?_⟩
     unfold Cx.G;rw [e1,e2];exact b2z hU h3
    ·exact g2.slot X' e1 e2 e3 hus t'
   ·cases hd
 | .ow t id e c::es,ren,s,π0,hd,hn,hren,hπ0=>by
   obtain ⟨hni,hnd⟩:=a8y (i:=id) (l:=b0j es) hn
   have hren': ∀q∈ren,q.2≠id /\ q.2∉b0j es:=fun q hq=>by
    have:=hren q hq
    simp only [b0j,qO,not_or] at this
    exact this
   obtain ⟨x,hx0⟩: ∃x:List (U.T c),x=a8f es s:=⟨_,rfl⟩
   obtain ⟨xs,hxs0⟩: ∃xs:Keep U es,xs=a5g es s:=⟨_,rfl⟩
   have e0: ∀i,(b2d al (.ow t id e c::es) s).mem i=if id=i then .sl e c x else (b2d al es xs).mem i:=fun i=>by
    rw [hx0,hxs0];exact mem_cons
   have key: ∀(ren':List (Nat×Nat)) (hv:Value),b8t pins al es ren' σ=some xs -> (∀q∈ren',q∈ren \/ (q.2=id /\ hv=π q.1)) -> (∀q∈ren,q∈ren') -> ρ t=hv -> hv.oneCell'=true -> MR (cx Z π σ w) (.sl e c x) hv -> (∀b,MB (.sl e c x:U.MC) hv b -> ∃old,(∀q∈ren,q.1≠old) /\ (∃q∈ren',q.1=old) /\ MB (σ.mem old) (π old) b) ->
     ∃π':Nat -> Value,(∀id',id'∉b0j (.ow t id e c::es) -> π' id'=π0 id') /\ KeepOK Z π σ ρ w ren (b0j (.ow t id e c::es)) (b2d al (.ow t id e c::es) s) π' /\ (∀i∈pins,π' i=π i /\ (i∈b0j (.ow t id e c::es) \/ ∃q∈ren,q.2=i)):=by
    intro ren' hv hdk hr1 hr2 hρ hone hMR hMBs
    obtain ⟨π',g1,g2,g3⟩:=b11 hU h es ren' xs (b52 π0 id hv) hdk hnd (fun q hq=>by
     rcases hr1 q hq with h1 | ⟨h1,_⟩
     ·exact (hren' q h1).2
     ·rw [h1];exact hni) (fun q hq=>by
     rcases hr1 q hq with h1 | ⟨h1,h2⟩
     ·rw [b52,if_neg (hren' q h1).1];exact hπ0 q h1
     ·rw [h1,b52,if_pos rfl];exact h2)
    have hid:π' id=hv:=by rw [g1 id hni,b52,if_pos rfl]
    refine ⟨π',fun id' hid'=> ?_,⟨fun X' e1 e2 e3 hus t'=> ?_,fun X' e1 e2 e3 hus id'=> ?_,fun id' b hb=> ?_,fun i1 i2 b hne hb hb'=> ?_,fun id' hid'=> ?_⟩,fun i hi=> ?_⟩
    ·simp only [b0j,qO,not_or] at hid'
     rw [g1 id' hid'.2,b52,if_neg hid'.1]
    ·show AVR X' (St.slot ⟨(t,.ref id)::(b2d al es (a5g es s)).sl,_,_⟩ t') _
     rw [s9]
     split
     ·rename_i e';subst e'
      refine ⟨hus id (.inl (by simp [b0j])),?_,by rw [hρ];exact hone⟩
      rw [e3,hid];exact hρ
     ·rw [<- hxs0]
      refine g2.slot X' e1 e2 e3 (fun id' hid'=> ?_) t'
      rcases hid' with hid' | ⟨q,hq,hq2⟩
      ·exact hus id' (.inl (by simp [b0j,hid']))
      ·rcases hr1 q hq with h1 | ⟨h1,_⟩
       ·exact hus id' (.inr ⟨q,h1,hq2⟩)
       ·exact hus id' (.inl (by simp [b0j,<- hq2,h1]))
    ·rw [e0]
     split
     ·rename_i e';subst e'
      rw [hid]
      obtain ⟨css,hO,hr⟩:=hMR
      refine ⟨css,by rw [e2];exact hO,?_⟩
      unfold Cx.G;rw [e1,e2];exact hr
     ·refine g2.mem X' e1 e2 e3 (fun id' hid'=> ?_) id'
      rcases hid' with hid' | ⟨q,hq,hq2⟩
      ·exact hus id' (.inl (by simp [b0j,hid']))
      ·rcases hr1 q hq with h1 | ⟨h1,_⟩
       ·exact hus id' (.inr ⟨q,h1,hq2⟩)
       ·exact hus id' (.inl (by simp [b0j,<- hq2,h1]))
    ·rw [e0] at hb
     split at hb
     ·rename_i e';subst e'
      rw [hid] at hb
      obtain ⟨old,h1,_,h2⟩:=hMBs b hb
      exact ⟨by simp [b0j],old,h1,h2⟩
     ·obtain ⟨h1,old,h2,h3⟩:=g2.own id' b hb
      exact ⟨by simp [b0j,h1],old,fun q hq=>h2 q (hr2 q hq),h3⟩
    ·rw [e0] at hb hb'
     split at hb
     ·rename_i e1;subst e1
      rw [if_neg hne] at hb'
      rw [hid] at hb
      obtain ⟨old,_,⟨q,hq,hq2⟩,h3⟩:=hMBs b hb
      obtain ⟨_,old',h2,h4⟩:=g2.own i2 b hb'
      exact h.dist old old' b (fun e=>h2 q hq (by rw [hq2,e])) h3 h4
     ·split at hb'
      ·rename_i e1 e2;subst e2
       rw [hid] at hb'
       obtain ⟨old,_,⟨q,hq,hq2⟩,h3⟩:=hMBs b hb'
       obtain ⟨_,old',h2,h4⟩:=g2.own i1 b hb
       exact h.dist old old' b (fun e=>h2 q hq (by rw [hq2,e])) h3 h4
      ·exact g2.dist i1 i2 b hne hb hb'
    ·rw [e0]
     simp only [b0j,qO] at hid'
     split
     ·intro h;cases h
     ·rename_i hne
      rcases hid' with h1 | h1
      ·exact absurd h1.symm hne
      ·exact g2.us id' h1
    ·obtain ⟨h1,h2⟩:=g3 i hi
     refine ⟨h1,?_⟩
     rcases h2 with h2 | ⟨q,hq,hq2⟩
     ·exact .inl (by simp [b0j,h2])
     ·rcases hr1 q hq with h3 | ⟨h3,_⟩
      ·exact .inr ⟨q,h3,hq2⟩
      ·exact .inl (by simp [b0j,<- hq2,h3])
   have hs:=h.slot t
   simp only [b8t] at hd
   split at hd
   ·rename_i hsl
    obtain ⟨h1,h2⟩:=a5e hd
    rw [hsl] at hs
    have hs:ρ t= .slice none 0 0:=hs
    have hx:x=[]:=by rw [hx0];exact (qH h1).symm
    rw [<- hxs0] at h2
    refine key ren (.slice none 0 0) h2 (fun q hq=> .inl hq) (fun q hq=>hq) hs rfl ⟨[],Own.nil _ _ _ _ _,by rw [hx];trivial⟩ (fun b hb=>by cases hb)
   ·rename_i id' hsl
    rw [hsl] at hs
    split at hd
    ·rename_i e' c' l hany hmem
     split at hd
     ·rename_i hbe
      have hee:=qC hbe
      obtain ⟨h1,h2⟩:=a5e hd
      rw [<- hxs0] at h2
      have h1:b44 c l=some x:=by rw [hx0];exact h1
      obtain ⟨he,hx⟩:=a2b (G:=noG) (w:=w) h1
      have hm:=h.mem id'
      rw [hmem] at hm
      have hm':MR (cx Z π σ w) (.sl e c x) (π id'):=by
       rw [hee,hx]
       clear key h1 hx hd e0 hx0
       subst he
       exact hm
      have hb': ∀b,MB (.sl e c x:U.MC) (π id') b -> MB (σ.mem id') (π id') b:=fun b hb=>by rw [hmem];exact hb
      refine key ((id',id)::ren) (π id') h2 (fun q hq=> ?_) (fun q hq=>qJ _ hq) hs.2.1 (by have h9:=hs.2.2;rw [show ρ t=π id' from hs.2.1] at h9;exact h9) hm' (fun b hb=>⟨id',fun q hq e1=> ?_,⟨_,qI,rfl⟩,hb' b hb⟩)
      ·rcases qO.1 hq with e1 | e1
       ·right;rw [e1];exact ⟨rfl,rfl⟩
       ·exact .inl e1
      ·have:(ren.any fun q=>Nat.beq q.1 id')=true:=List.any_eq_true.2 ⟨q,hq,by rw [e1];exact Nat.beq_refl id'⟩
       rw [hany] at this;cases this
     ·cases hd
    ·cases hd
   ·cases hd
 | .bx t id ty c::es,ren,s,π0,hd,hn,hren,hπ0=>by
   obtain ⟨hni,hnd⟩:=a8y (i:=id) (l:=b0j es) hn
   have hren': ∀q∈ren,q.2≠id /\ q.2∉b0j es:=fun q hq=>by
    have:=hren q hq
    simp only [b0j,qO,not_or] at this
    exact this
   have hs:=h.slot t
   simp only [b8t] at hd
   split at hd
   ·rename_i id' hsl
    rw [hsl] at hs
    split at hd
    ·rename_i ty' bb hany hmem
     split at hd
     ·rename_i hbe
      have hee:=qC hbe
      subst hee
      obtain ⟨hp,hdk⟩:=a5e hd
      have hnew: ∀q∈ren,q.1≠id':=fun q hq e1=>by
       have:(ren.any fun q=>Nat.beq q.1 id')=true:=List.any_eq_true.2 ⟨q,hq,by rw [e1];exact Nat.beq_refl id'⟩
       rw [hany] at this;cases this
      obtain ⟨π',g1,g2,g3⟩:=b11 hU h es ((id',id)::ren) (a5g es s) (b52 π0 id (π id')) hdk hnd (fun q hq=>by
       rcases qO.1 hq with e1 | e1
       ·rw [e1];exact hni
       ·exact (hren' q e1).2) (fun q hq=>by
       rcases qO.1 hq with e1 | e1
       ·rw [e1];exact if_pos rfl
       ·rw [b52,if_neg (hren' q e1).1];exact hπ0 q e1)
      have hid:π' id=π id':=by rw [g1 id hni,b52,if_pos rfl]
      have hm:=h.mem id'
      rw [hmem] at hm
      have e0: ∀i,(b2d al (.bx t id ty c::es) s).mem i=if id=i then .box ty (inj c (a8f es s)) else (b2d al es (a5g es s)).mem i:=fun i=>mem_cons
      refine ⟨π',fun i hi=> ?_,⟨fun X' e1 e2 e3 hus t'=> ?_,fun X' e1 e2 e3 hus i=> ?_,fun i b hb=> ?_,fun i1 i2 b hne hb hb'=> ?_,fun i hi=> ?_⟩,fun i hi=> ?_⟩
      ·simp only [b0j,qO,not_or] at hi
       rw [g1 i hi.2,b52,if_neg hi.1]
      ·show AVR X' (St.slot ⟨(t,.ref id)::(b2d al es (a5g es s)).sl,_,_⟩ t') _
       rw [s9]
       split
       ·rename_i e';subst e'
        refine ⟨hus id (.inl (by simp [b0j])),?_,hs.2.2⟩
        rw [e3,hid];exact hs.2.1
       ·refine g2.slot X' e1 e2 e3 (fun i hi=> ?_) t'
        rcases hi with hi | ⟨q,hq,hq2⟩
        ·exact hus i (.inl (by simp [b0j,hi]))
        ·rcases qO.1 hq with e' | e'
         ·rw [e'] at hq2;exact hus i (.inl (by simp [b0j,<- hq2]))
         ·exact hus i (.inr ⟨q,e',hq2⟩)
      ·rw [e0]
       split
       ·rename_i e';subst e'
        rw [hid]
        obtain ⟨blk,u,hv,hM,hr⟩:=hm
        refine ⟨blk,u,hv,by rw [e2];exact hM,a84 (a15 hU c _).1 (b7e hU hp (e21 h hr)) e2 (by rw [e1];exact fun _ h=>h)⟩
       ·refine g2.mem X' e1 e2 e3 (fun i hi=> ?_) i
        rcases hi with hi | ⟨q,hq,hq2⟩
        ·exact hus i (.inl (by simp [b0j,hi]))
        ·rcases qO.1 hq with e' | e'
         ·rw [e'] at hq2;exact hus i (.inl (by simp [b0j,<- hq2]))
         ·exact hus i (.inr ⟨q,e',hq2⟩)
      ·rw [e0] at hb
       split at hb
       ·rename_i e';subst e'
        rw [hid] at hb
        exact ⟨by simp [b0j],id',hnew,by rw [hmem];exact hb⟩
       ·obtain ⟨h1,old,h2,h3⟩:=g2.own i b hb
        exact ⟨by simp [b0j,h1],old,fun q hq=>h2 q (qJ _ hq),h3⟩
      ·rw [e0] at hb hb'
       split at hb
       ·rename_i e1;subst e1
        rw [if_neg hne] at hb'
        rw [hid] at hb
        obtain ⟨_,old',h2,h4⟩:=g2.own i2 b hb'
        exact h.dist id' old' b (h2 _ qI) (by rw [hmem];exact hb) h4
       ·split at hb'
        ·rename_i e1 e2;subst e2
         rw [hid] at hb'
         obtain ⟨_,old',h2,h4⟩:=g2.own i1 b hb
         exact h.dist id' old' b (h2 _ qI) (by rw [hmem];exact hb') h4
        ·exact g2.dist i1 i2 b hne hb hb'
      ·rw [e0]
       simp only [b0j,qO] at hi
       split
       ·intro h;cases h
       ·rename_i hne
        rcases hi with h1 | h1
        ·exact absurd h1.symm hne
        ·exact g2.us i h1
      ·obtain ⟨h1,h2⟩:=g3 i hi
       refine ⟨h1,?_⟩
       rcases h2 with h2 | ⟨q,hq,hq2⟩
       ·exact .inl (by simp [b0j,h2])
       ·rcases qO.1 hq with e' | e'
        ·rw [e'] at hq2;exact .inl (by simp [b0j,<- hq2])
        ·exact .inr ⟨q,e',hq2⟩
     ·cases hd
    ·cases hd
   ·cases hd
 | .of t f id e c::es,ren,s,π0,hd,hn,hren,hπ0=>by
   obtain ⟨hni,hnd⟩:=a8y (i:=id) (l:=b0j es) hn
   have hren': ∀q∈ren,q.2≠id /\ q.2∉b0j es:=fun q hq=>by
    have:=hren q hq
    simp only [b0j,qO,not_or] at this
    exact this
   simp only [b8t] at hd
   split at hd
   case h_2=>cases hd
   rename_i bid hsl
   split at hd
   case h_2=>cases hd
   rename_i bty bc fs hbm
   split at hd
   case h_2=>cases hd
   rename_i id' hra
   split at hd
   case h_2=>cases hd
   rename_i e' c' l hany hmem
   split at hd
   case h_2=>cases hd
   rename_i hbe
   have hee:=qC hbe
   subst hee
   obtain ⟨h1,h2⟩:=a5e hd
   have hnew: ∀q∈ren,q.1≠id':=fun q hq e1=>by
    have:(ren.any fun q=>Nat.beq q.1 id')=true:=List.any_eq_true.2 ⟨q,hq,by rw [e1];exact Nat.beq_refl id'⟩
    rw [hany] at this;cases this
   obtain ⟨π',g1,g2,g3⟩:=b11 hU h es ((id',id)::ren) (a5g es s) (b52 π0 id (π id')) h2 hnd (fun q hq=>by
    rcases qO.1 hq with e1 | e1
    ·rw [e1];exact hni
    ·exact (hren' q e1).2) (fun q hq=>by
    rcases qO.1 hq with e1 | e1
    ·rw [e1];exact if_pos rfl
    ·rw [b52,if_neg (hren' q e1).1];exact hπ0 q e1)
   have hm:=h.mem id'
   rw [hmem] at hm
   obtain ⟨hx,hx0⟩: ∃x:List (U.T c),x=a8f es s:=⟨_,rfl⟩
   have h1:b44 c l=some hx:=by rw [hx0];exact h1
   obtain ⟨hcc,hxl⟩:=a2b (G:=noG) (w:=w) h1
   refine ⟨π',c15 (mc:= .sl e c (a8f es s)) h hni g1 g2 g3 (fun q hq=> ?_) (fun q hq=>qJ _ hq) (fun i=>mem_cons) (fun h=>by cases h) (fun X' e1 e2 _ _=> ?_) (fun b hb=>⟨id',hnew,⟨_,qI,rfl⟩,by rw [hmem];exact hb⟩) fun t=> .inl rfl⟩
   ·rcases qO.1 hq with e1 | e1
    ·right;rw [e1];exact ⟨rfl,rfl⟩
    ·exact .inl e1
   ·rw [<- hx0,hxl]
    clear h1 hxl hx0 hd g1 g2 g3
    subst hcc
    obtain ⟨css,hO,hr⟩:=hm
    refine ⟨css,by rw [e2];exact hO,?_⟩
    unfold Cx.G;rw [e1,e2];exact hr
 | .cl t f cs::es,ren,s,π0,hd,hn,hren,hπ0=>by
   simp only [b8t] at hd
   split at hd
   case h_2=>cases hd
   rename_i f' as hsl
   split at hd
   case h_2=>cases hd
   rename_i hbe
   have hee:=qC hbe
   subst hee
   obtain ⟨h1,h2⟩:=a5e hd
   obtain ⟨π',g1,g2,g3⟩:=b11 hU h es ren (a5g es s) π0 h2 hn hren hπ0
   refine ⟨π',g1,⟨fun X' e1 e2 e3 hus t'=> ?_,g2.mem,g2.own,g2.dist,g2.us⟩,g3⟩
   show AVR X' (St.slot ⟨(t,.clo f (e2s cs (a8f es s)))::(b2d al es (a5g es s)).sl,_,_⟩ t') _
   rw [s9]
   split
   ·rename_i e;subst e
    have hs:=h.slot t
    rw [hsl] at hs
    obtain ⟨vs,hv,hr⟩:=hs
    exact ⟨vs,hv,d9r hU e1 e2 h1 hr⟩
   ·exact g2.slot X' e1 e2 e3 hus t'
 | .cr t f is::es,ren,s,π0,hd,hn,hren,hπ0=>by
   simp only [b8t] at hd
   split at hd
   case h_2=>cases hd
   rename_i f' as hsl
   split at hd
   case h_2=>cases hd
   rename_i hck
   simp only [qB] at hck
   have hee:=qC hck.1
   subst hee
   obtain ⟨h1,h2⟩:=a5e hd
   obtain ⟨π',g1,g2,g3⟩:=b11 hU h es ren (a5g es s) π0 h2 hn hren hπ0
   refine ⟨π',g1,⟨fun X' e1 e2 e3 hus t'=> ?_,g2.mem,g2.own,g2.dist,g2.us⟩,g3⟩
   show AVR X' (St.slot ⟨(t,.clo f (is.map .ref))::(b2d al es (a5g es s)).sl,_,_⟩ t') _
   rw [s9]
   split
   ·rename_i e;subst e
    have hs:=h.slot t
    rw [hsl] at hs
    obtain ⟨vs,hv,hr⟩:=hs
    refine ⟨vs,hv,e29 (fun q hq=>⟨hus q.2 (.inr ⟨q,hq,rfl⟩),?_⟩) hck.2 hr⟩
    rw [e3]
    show π' q.2=π q.1
    rw [g1 q.2 (hren q hq),hπ0 q hq]
   ·exact g2.slot X' e1 e2 e3 hus t'
 | .vw t id c::es,ren,s,π0,hd,hn,hren,hπ0=>by
   simp only [b8t] at hd
   split at hd
   case h_2=>cases hd
   rename_i id' c' lo n hsl
   split at hd
   case h_2=>cases hd
   rename_i hck
   simp only [qB] at hck
   have hcc:=b4x hck.2
   subst hcc
   obtain ⟨q,hq,hq2⟩:=List.any_eq_true.1 hck.1
   simp only [qB] at hq2
   have q1:=qC hq2.1
   have q2:=qC hq2.2
   obtain ⟨h1,h2⟩:=a5e hd
   have h1:(lo,n)=a8f es s:=qH h1
   obtain ⟨π',g1,g2,g3⟩:=b11 hU h es ren (a5g es s) π0 h2 hn hren hπ0
   refine ⟨π',g1,⟨fun X' e1 e2 e3 hus t'=> ?_,g2.mem,g2.own,g2.dist,g2.us⟩,g3⟩
   show AVR X' (St.slot ⟨(t,.vw id c (a8f es s).1 (a8f es s).2)::(b2d al es (a5g es s)).sl,_,_⟩ t') _
   rw [s9]
   split
   ·rename_i e;subst e
    have hs:=h.slot t
    rw [hsl] at hs
    refine ⟨hus id (.inr ⟨q,hq,q2⟩),?_⟩
    have hp:X'.π id=π id':=by
     rw [e3]
     show π' id=π id'
     rw [<- q2,g1 q.2 (hren q hq),hπ0 q hq,q1]
    rw [<- h1,hp]
    exact hs.2
   ·exact g2.slot X' e1 e2 e3 hus t'
 | .mp t id::es,ren,s,π0,hd,hn,hren,hπ0=>by
   obtain ⟨hni,hnd⟩:=a8y (i:=id) (l:=b0j es) hn
   have hren': ∀q∈ren,q.2≠id /\ q.2∉b0j es:=fun q hq=>by
    have:=hren q hq
    simp only [b0j,qO,not_or] at this
    exact this
   have hs:=h.slot t
   simp only [b8t] at hd
   split at hd
   case h_2=>cases hd
   rename_i id' hsl
   rw [hsl] at hs
   split at hd
   case h_2=>cases hd
   rename_i l0 hany hmem
   obtain ⟨h1,h2⟩:=a5e hd
   have hnew: ∀q∈ren,q.1≠id':=fun q hq e1=>by
    have:(ren.any fun q=>Nat.beq q.1 id')=true:=List.any_eq_true.2 ⟨q,hq,by rw [e1];exact Nat.beq_refl id'⟩
    rw [hany] at this;cases this
   obtain ⟨π',g1,g2,g3⟩:=b11 hU h es ((id',id)::ren) (a5g es s) (b52 π0 id (π id')) h2 hnd (fun q hq=>by
    rcases qO.1 hq with e1 | e1
    ·rw [e1];exact hni
    ·exact (hren' q e1).2) (fun q hq=>by
    rcases qO.1 hq with e1 | e1
    ·rw [e1];exact if_pos rfl
    ·rw [b52,if_neg (hren' q e1).1];exact hπ0 q e1)
   have hm:=h.mem id'
   rw [hmem] at hm
   have h1:l0=a8f es s:=qH h1
   refine ⟨π',c15 (mc:= .mp (a8f es s)) h hni g1 g2 g3 (fun q hq=> ?_) (fun q hq=>qJ _ hq) (fun i=>mem_cons) (fun h=>by cases h) (fun X' e1 e2 _ _=> ?_) (fun b hb=>⟨id',hnew,⟨_,qI,rfl⟩,by rw [hmem];exact hb⟩) fun t'=> ?_⟩
   ·rcases qO.1 hq with e1 | e1
    ·right;rw [e1];exact ⟨rfl,rfl⟩
    ·exact .inl e1
   ·rw [<- h1]
    obtain ⟨b,hv,h0,hb⟩:=hm
    exact ⟨b,hv,h0,by rw [e2];exact hb⟩
   ·show St.slot ⟨(t,.ref id)::(b2d al es (a5g es s)).sl,_,_⟩ t'=_ \/ _
    by_cases e':t=t'
    ·subst e'
     refine .inr ⟨?_,hs.2.1,(show ρ t=π id' from hs.2.1)▸hs.2.2⟩
     show St.slot ⟨(t,.ref id)::(b2d al es (a5g es s)).sl,_,_⟩ t=_
     rw [s9,if_pos rfl]
    ·left;rw [s9,if_neg e'];rfl
 | .it t id::es,ren,s,π0,hd,hn,hren,hπ0=>by
   obtain ⟨hni,hnd⟩:=a8y (i:=id) (l:=b0j es) hn
   have hren': ∀q∈ren,q.2≠id /\ q.2∉b0j es:=fun q hq=>by
    have:=hren q hq
    simp only [b0j,qO,not_or] at this
    exact this
   have hs:=h.slot t
   simp only [b8t] at hd
   split at hd
   case h_2=>cases hd
   rename_i id' hsl
   rw [hsl] at hs
   split at hd
   case h_2=>cases hd
   rename_i str p hany hmem
   obtain ⟨h1,h2⟩:=a5e hd
   have hnew: ∀q∈ren,q.1≠id':=fun q hq e1=>by
    have:(ren.any fun q=>Nat.beq q.1 id')=true:=List.any_eq_true.2 ⟨q,hq,by rw [e1];exact Nat.beq_refl id'⟩
    rw [hany] at this;cases this
   obtain ⟨π',g1,g2,g3⟩:=b11 hU h es ((id',id)::ren) (a5g es s) (b52 π0 id (π id')) h2 hnd (fun q hq=>by
    rcases qO.1 hq with e1 | e1
    ·rw [e1];exact hni
    ·exact (hren' q e1).2) (fun q hq=>by
    rcases qO.1 hq with e1 | e1
    ·rw [e1];exact if_pos rfl
    ·rw [b52,if_neg (hren' q e1).1];exact hπ0 q e1)
   have hm:=h.mem id'
   rw [hmem] at hm
   have h1:(str,p)=a8f es s:=qH h1
   refine ⟨π',c15 (mc:= .it (a8f es s).1 (a8f es s).2) h hni g1 g2 g3 (fun q hq=> ?_) (fun q hq=>qJ _ hq) (fun i=>mem_cons) (fun h=>by cases h) (fun X' e1 e2 _ _=> ?_) (fun b hb=>⟨id',hnew,⟨_,qI,rfl⟩,by rw [hmem];exact hb⟩) fun t'=> ?_⟩
   ·rcases qO.1 hq with e1 | e1
    ·right;rw [e1];exact ⟨rfl,rfl⟩
    ·exact .inl e1
   ·rw [<- h1]
    obtain ⟨b,hv,h0,hb⟩:=hm
    exact ⟨b,hv,h0,by rw [e2];exact hb⟩
   ·show St.slot ⟨(t,.ref id)::(b2d al es (a5g es s)).sl,_,_⟩ t'=_ \/ _
    by_cases e':t=t'
    ·subst e'
     refine .inr ⟨?_,hs.2.1,(show ρ t=π id' from hs.2.1)▸hs.2.2⟩
     show St.slot ⟨(t,.ref id)::(b2d al es (a5g es s)).sl,_,_⟩ t=_
     rw [s9,if_pos rfl]
    ·left;rw [s9,if_neg e'];rfl
 | .bm t id ty c m::es,ren,s,π0,hd,hn,hren,hπ0=>by
   obtain ⟨hni,hnd⟩:=a8y (i:=id) (l:=b0j es) hn
   have hren': ∀q∈ren,q.2≠id /\ q.2∉b0j es:=fun q hq=>by
    have:=hren q hq
    simp only [b0j,qO,not_or] at this
    exact this
   have hs:=h.slot t
   simp only [b8t] at hd
   split at hd
   case h_2=>cases hd
   rename_i id' hsl
   rw [hsl] at hs
   split at hd
   case h_2=>cases hd
   rename_i ty' c' fs hany hmem
   split at hd
   case h_2=>cases hd
   rename_i hck
   simp only [qB] at hck
   have hee:=qC hck.1.1
   subst hee
   have hcc:=b4x hck.1.2
   subst hcc
   obtain ⟨hp,hdk⟩:=a5e hd
   have hnew: ∀q∈ren,q.1≠id':=fun q hq e1=>by
    have:(ren.any fun q=>Nat.beq q.1 id')=true:=List.any_eq_true.2 ⟨q,hq,by rw [e1];exact Nat.beq_refl id'⟩
    rw [hany] at this;cases this
   obtain ⟨π',g1,g2,g3⟩:=b11 hU h es ((id',id)::ren) (a5g es s) (b52 π0 id (π id')) hdk hnd (fun q hq=>by
    rcases qO.1 hq with e1 | e1
    ·rw [e1];exact hni
    ·exact (hren' q e1).2) (fun q hq=>by
    rcases qO.1 hq with e1 | e1
    ·rw [e1];exact if_pos rfl
    ·rw [b52,if_neg (hren' q e1).1];exact hπ0 q e1)
   have hm:=h.mem id'
   rw [hmem] at hm
   obtain ⟨blk,u,hv,hM,css,hu,hlay,hpp,hr⟩:=hm
   refine ⟨π',c15 (mc:= .box ty (.st c (b3u m (U.flds c (a8f es s))))) h hni g1 g2 g3 (fun q hq=> ?_) (fun q hq=>qJ _ hq) (fun i=>mem_cons) (fun h=>by cases h) (fun X' e1 e2 e3 hus=> ?_) (fun b hb=>⟨id',hnew,⟨_,qI,rfl⟩,by rw [hmem];exact hb⟩) fun t'=> ?_⟩
   ·rcases qO.1 hq with e1 | e1
    ·right;rw [e1];exact ⟨rfl,rfl⟩
    ·exact .inl e1
   ·obtain ⟨k1,k2,k3⟩:=c77 hU (X:=cx Z π σ w) (X':=X') hlay hpp hr hp e2 (by rw [e1];exact fun _ h=>h) fun j jd hj=>by
     have hmo:=List.all_eq_true.1 hck.2 _ hj
     dsimp only at hmo
     split at hmo
     ·rename_i i hi
      obtain ⟨q,hq,hq2⟩:=List.any_eq_true.1 hmo
      simp only [qB] at hq2
      have q1:=qC hq2.1
      have q2:=qC hq2.2
      have hqr:=hren' q hq
      refine ⟨i,b5y hi,hus jd (.inr ⟨q,qJ _ hq,q2⟩),?_⟩
      rw [e3]
      show π' jd=π i
      rw [<- q2,g1 q.2 hqr.2,b52,if_neg hqr.1,hπ0 q hq,q1]
     ·cases hmo
    exact ⟨blk,u,hv,by rw [e2];exact hM,css,hu,k1,k2,k3⟩
   ·show St.slot ⟨(t,.ref id)::(b2d al es (a5g es s)).sl,_,_⟩ t'=_ \/ _
    rw [s9]
    split
    ·rename_i e';subst e'
     right
     refine ⟨?_,hs.2.1,by have h9:=hs.2.2;rw [show ρ t=π id' from hs.2.1] at h9;exact h9⟩
     show St.slot ⟨(t,.ref id)::(b2d al es (a5g es s)).sl,_,_⟩ t=_
     rw [s9,if_pos rfl]
    ·exact .inl rfl
theorem c07 {α β:Type} {o:Option α} {f:α -> Option β} {b:β} (h:bindO o f=some b): ∃a,o=some a /\ f a=some b:=by
 cases o with
 | none=>cases h
 | some a=>exact ⟨a,rfl,h⟩
theorem a7e {σ:U.St}: ∀es:List (EK U.C),FZ σ (d7n σ es)
 | [],id,m,h=>by cases h
 | .ls t _::es,id,m,h=>by
   simp only [d7n] at h
   split at h
   ·rename_i id' hs
    split at h
    ·rename_i e c l hm
     rcases qO.1 h with h | h
     ·simp only [Prod.mk.injEq] at h
      obtain ⟨rfl,rfl⟩:=h
      exact ⟨_,_,_,hm,rfl⟩
     ·exact a7e es id m h
    ·exact a7e es id m h
   ·exact a7e es id m h
 | .v _ _::es,id,m,h=>a7e es id m h
 | .ow _ _ _ _::es,id,m,h=>a7e es id m h
 | .bx t _ _ _::es,id,m,h=>by
   simp only [d7n] at h
   split at h
   ·split at h
    ·rcases qK.1 h with h | h
     ·exact d2c _ id m h
     ·exact a7e es id m h
    ·exact a7e es id m h
   ·exact a7e es id m h
 | .rp _ _::es,id,m,h=>a7e es id m h
 | .of _ _ _ _ _::es,id,m,h=>a7e es id m h
 | .bm _ _ _ _ _::es,id,m,h=>a7e es id m h
 | .it _ _::es,id,m,h=>a7e es id m h
 | .mp _ _::es,id,m,h=>a7e es id m h
 | .vw _ _ _::es,id,m,h=>a7e es id m h
 | .cr _ _ _::es,id,m,h=>a7e es id m h
 | .cl _ _ _::es,id,m,h=>a7e es id m h
theorem b7z (hU:UOK U) {Z:Nat -> Prop} {π:Nat -> Value} {σ:U.St} {ρ:Nat -> Value} {w:World} (h:Rel E Z π σ ρ w) {pins:List Nat} (hpin: ∀i,E.pin i↔i∈pins) {al:List (Nat×Nat)} {es:List (EK U.C)} {s:Keep U es} (hd:d0m pins al es σ=some s): ∃Z2 π',(∀b,Z b -> Z2 b) /\ Rel E Z2 π' (b2d al es s) ρ w:=by
 unfold d0m at hd
 split at hd
 ·rename_i hn
  have hfz:FZ σ (d7n σ es):=a7e es
  have hle:=c2w h hfz
  have h:=h.freeze hfz
  obtain ⟨π',g1,g2,g3⟩:=b11 hU h es [] s π hd hn (fun q hq=>by cases hq) (fun q hq=>by cases hq)
  refine ⟨_,π',hle.z,fun t=>g2.slot (cx _ π' (b2d al es s) w) rfl rfl rfl (fun id hid=> ?_) t,fun id=>g2.mem (cx _ π' (b2d al es s) w) rfl rfl rfl (fun id hid=>by
   rcases hid with hid | ⟨q,hq,_⟩
   ·exact g2.us id hid
   ·cases hq) id,fun id b hb=> ?_,g2.dist,h.zlt,h.zin,h.zout,h.ext,fun i hi=> ?_,h.tab⟩
  ·rcases hid with hid | ⟨q,hq,_⟩
   ·exact g2.us id hid
   ·cases hq
  ·obtain ⟨_,old,_,h3⟩:=g2.own id b hb
   exact h.own old b h3
  ·obtain ⟨h1,h2⟩:=g3 i ((hpin i).1 hi)
   refine ⟨?_,h1.trans (h.pin i hi).2⟩
   rcases h2 with h2 | ⟨q,hq,_⟩
   ·exact g2.us i h2
   ·cases hq
 ·cases hd
theorem e83 {X X':Cx} (hz:X'.Z=X.Z) (hw:X'.w=X.w): ∀{as:List U.AV} {vs:List Value},as.all isRp=true -> m7 (a18 X) as vs -> m7 (a18 X') as vs
 | [],[],_,_=>trivial
 | [],_::_,_,h=>h.elim
 | _::_,[],_,h=>h.elim
 | a::as,u::vs,hp,h=>by
   simp only [List.all_cons,qB] at hp
   refine ⟨?_,e83 hz hw hp.2 h.2⟩
   have hp1:=hp.1
   cases a<;>try (cases hp1;done)
   exact f2x hw hz h.1
theorem c1x {X X':Cx} {a:U.AV} {v:Value} (hp:d28 a=true) (h:AVR X a v) (hz:X'.Z=X.Z) (hw:X'.w=X.w):AVR X' a v:=by
 have hG:X'.G=X.G:=by unfold Cx.G;rw [hz]
 cases a<;>first
  | exact h
  | (cases hp;done)
  | (simp only [AVR,a18,b37,hG,hw] at h ⊢; exact h)
  | (obtain ⟨vs,hv,hr⟩:=h
     exact ⟨vs,hv,e83 hz hw hp hr⟩)
  | (rename_i f a
     cases a<;>try (cases hp;done)
     obtain ⟨r,hv,cs,hc,hr⟩:=h
     exact ⟨r,hv,cs,hc,by rw [hG,hw];exact hr⟩)
theorem e6s {σ:U.St}: ∀(inv:List Nat) (t:Nat),lk t (e2p σ inv)=if t∈inv /\ d28 (σ.slot t)=true then some (σ.slot t) else none
 | [],t=>by simp [e2p,lk]
 | i::inv,t=>by
   have ih:=e6s (σ:=σ) inv t
   simp only [e2p]
   split
   ·rename_i hp
    show (bif Nat.beq i t then some (σ.slot i) else lk t (e2p σ inv))=_
    cases hk:Nat.beq i t with
    | true=>
      have:=qC hk
      subst this
      simp [hp]
    | false=>
      have hne:=Nat.ne_of_beq_eq_false hk
      rw [show (bif false then some (σ.slot i) else lk t (e2p σ inv))=lk t (e2p σ inv) from rfl,ih]
      simp [Ne.symm hne]
   ·rename_i hp
    rw [ih]
    by_cases hti:t=i
    ·subst hti
     simp [hp]
    ·simp [hti]
theorem c8t (σ:U.St) (t:Nat):σ.slot t=(lk t σ.sl).getD .unk:=by
 unfold St.slot
 cases lk t σ.sl<;>rfl
theorem c9b {σ:U.St} {inv:List Nat} {al:List (Nat×Nat)} {es:List (EK U.C)} {s:Keep U es} (t:Nat):(d69 σ inv al es s).slot t=if t∈inv /\ d28 (σ.slot t)=true then σ.slot t else (b2d al es s).slot t:=by
 have e:(d69 σ inv al es s).slot t=(lk t (e2p σ inv++(b2d al es s).sl)).getD .unk:=c8t _ _
 rw [e,c1b,e6s,c8t (b2d al es s)]
 by_cases hh:t∈inv /\ d28 (σ.slot t)=true
 ·rw [if_pos hh,if_pos hh];rfl
 ·rw [if_neg hh,if_neg hh]
theorem c0z {Z:Nat -> Prop} {π':Nat -> Value} {σ:U.St} {ρ:Nat -> Value} {w:World} {inv:List Nat} {al:List (Nat×Nat)} {es:List (EK U.C)} {s:Keep U es} (h:Rel E Z π' (b2d al es s) ρ w) (hs: ∀t,t∈inv -> d28 (σ.slot t)=true -> AVR (cx Z π' (b2d al es s) w) (σ.slot t) (ρ t)):Rel E Z π' (d69 σ inv al es s) ρ w:=by
 have hc:cx Z π' (d69 σ inv al es s) w=cx Z π' (b2d al es s) w:=rfl
 refine ⟨fun t=> ?_,h.mem,h.own,h.dist,h.zlt,h.zin,h.zout,h.ext,h.pin,h.tab⟩
 rw [hc,c9b]
 split
 ·rename_i hh
  exact hs t hh.1 hh.2
 ·exact h.slot t
def Env.re (E:Env) (Z:Nat -> Prop) (w:World):Env:=⟨w,fun b=>(E.G b \/ E.w0.heap.size <= b) /\ ¬Z b,Z,E.pin,E.π0⟩
theorem Rel.re (hU:UOK U) {Z:Nat -> Prop} {π:Nat -> Value} {σ:U.St} {ρ:Nat -> Value} {w:World} (h:Rel E Z π σ ρ w):Rel (E.re Z w) Z π σ ρ w:=
 ⟨h.slot,h.mem,fun id b hb=>by obtain ⟨h1,h2,h3⟩:=h.own id b hb;exact ⟨h1,h2,.inl ⟨h3,h1⟩⟩,h.dist,h.zlt,fun b hb=> .inl hb,fun b hb=>hb,Ext.refl _ _,h.pin,h.tabw hU,fun b hb=>⟨Nat.lt_of_lt_of_le (h.tab.2 b hb).1 h.ext.size,fun hg=>hg.1.elim (h.tab.2 b hb).2 fun hg=>by have:=(h.tab.2 b hb).1;omega⟩⟩
theorem Rel.un {Z Z1:Nat -> Prop} {π π1:Nat -> Value} {σ σ1:U.St} {ρ ρ1:Nat -> Value} {w w1:World} (h0:Rel E Z1 π1 σ1 ρ1 w1) (h:Rel (E.re Z1 w1) Z π σ ρ w):Rel E Z π σ ρ w:=by
 refine ⟨h.slot,h.mem,fun id b hb=> ?_,h.dist,h.zlt,fun b hb=> ?_,fun b hb=>h.zout b (h0.zout b hb),c4u h0.ext h.ext fun x hx=>hx.1,h.pin,h0.tab⟩
 ·obtain ⟨h1,h2,h3⟩:=h.own id b hb
  refine ⟨h1,h2,?_⟩
  rcases h3 with h3 | h3
  ·exact h3.1
  ·exact .inr (Nat.le_trans h0.ext.size h3)
 ·rcases h.zin b hb with h1 | h1 | h1
  ·exact h0.zin b h1
  ·exact .inr h1.1
  ·exact .inr (.inr (Nat.le_trans h0.ext.size h1))
def a2v (n:Nat):Code -> Bool
 | .region _ ops _=>Plan.okTmps ops.toList n&&Plan.okSel ops.toList&&Plan.okAfter ops.toList
 | .seq a b=>a2v n a&&a2v n b
 | .cond c a b=>Operand.below n c&&(a2v n a&&a2v n b)
 | .block _ a=>a2v n a
 | .loop a=>a2v n a
 | _=>true
structure KOK {R:Type} (E:Env) (T:Nat -> Prop) (ρ0:Nat -> Value) (k:Kont U R) (r:R) (Q:Exit -> (Nat -> Value) -> World -> Prop):Prop where
 norm: ∀σ Z π ρ w,(∀t,T t -> ρ t=ρ0 t) -> Rel E Z π σ ρ w -> k.norm σ=some r -> Q .normal ρ w
 exit: ∀i σ Z π ρ w,(∀t,T t -> ρ t=ρ0 t) -> Rel E Z π σ ρ w -> k.exit i σ=some r -> Q (.exit i) ρ w
 ret: ∀σ Z π ρ w,(∀t,T t -> ρ t=ρ0 t) -> Rel E Z π σ ρ w -> k.ret σ=some r -> Q .ret ρ w
theorem c3y {a b:List Nat} (h:d8p a b=true) {x:Nat} (hx:x∈a):x∉b:=fun hb=>by
 have h1:=List.all_eq_true.1 h x hx
 have:(b.any (Nat.beq x))=true:=List.any_eq_true.2 ⟨x,hb,Nat.beq_refl x⟩
 rw [this] at h1;cases h1
theorem e4o {Z:Nat -> Prop} {π:Nat -> Value} {σ:U.St} {ρ:Nat -> Value} {w:World} (h:Rel E Z π σ ρ w) {c:Operand} {e:Bool} (hc:b4z σ c=some e):ev ρ c= .bool e:=by
 unfold b4z at hc
 split at hc
 ·cases hc;rfl
 ·rename_i t
  have hs:=h.slot t
  split at hc
  ·rename_i b hst
   cases hc
   rw [hst] at hs;exact hs
  ·cases hc
 ·cases hc
theorem c66 {σ:U.St}: ∀ts:List Nat,FZ σ (f1m σ ts)
 | [],id,m,h=>by cases h
 | t::ts,id,m,h=>by
   simp only [f1m] at h
   split at h
   ·split at h
    ·rename_i e c l hm
     rcases qO.1 h with h | h
     ·simp only [Prod.mk.injEq] at h
      obtain ⟨rfl,rfl⟩:=h
      exact ⟨_,_,_,hm,rfl⟩
     ·exact c66 ts id m h
    ·exact c66 ts id m h
   ·exact c66 ts id m h
theorem e4b {Z:Nat -> Prop} {π:Nat -> Value} {σ:U.St} {ρ:Nat -> Value} {w:World} (h:Rel E Z π σ ρ w) (ts:List Nat): ∃Z',Rel E Z' π (frzA σ ts) ρ w:=by
 cases ts with
 | nil=>exact ⟨Z,h⟩
 | cons t ts=>exact ⟨_,h.freeze (c66 (t::ts))⟩
theorem a5d (hU:UOK U) (hΦ:OKΦ P Φ) (hm:P.follows .mixedOrders=true) {pins:List Nat} {R:Type}: ∀(c:Code) (an:Ann U.C) (σ:U.St) (k:Kont U R) (r:R),a2v n c=true -> den P Φ pins c an σ k=some r -> ∀(E:Env),(∀i,E.pin i↔i∈pins) -> ∀(T:Nat -> Prop) (ρ0:Nat -> Value) Q,(∀t,T t -> t∉b28 c) -> KOK E T ρ0 k r Q -> ∀Z π ρ w,(∀t,T t -> ρ t=ρ0 t) -> Rel E Z π σ ρ w -> WP P n c Q ρ w
 | .skip,an,σ,k,r,_,h,E,_,T,ρ0,Q,_,hk,Z,π,ρ,w,hρ,hR=>WP.skip (hk.norm σ Z π ρ w hρ hR h)
 | .region id ops draw,an,σ,k,r,hc,h,E,_,T,ρ0,Q,hT,hk,Z,π,ρ,w,hρ,hR=>by
   simp only [a2v,qB] at hc
   obtain ⟨Z,hR⟩:=e4b hR an.fz
   have:=d98 (Q:=Q) (id:=id) hU hΦ hm hc.1.1 hc.1.2 hc.2 h (fun σ' Z π ρ' w hk' hR' h'=>hk.norm σ' Z π ρ' w (fun t ht=>by
    rw [hk' t fun o ho hd=>hT t ht ?_]
    ·exact hρ t ht
    ·exact List.mem_filterMap.2 ⟨o,ho,hd⟩) hR' h') hR
   rwa [Array.toArray_toList] at this
 | .seq a b,an,σ,k,r,hc,h,E,hpin,T,ρ0,Q,hT,hk,Z,π,ρ,w,hρ,hR=>by
   simp only [a2v,qB] at hc
   have hTa: ∀t,T t -> t∉b28 a:=fun t ht h=>hT t ht (List.mem_append_left _ h)
   have hTb: ∀t,T t -> t∉b28 b:=fun t ht h=>hT t ht (List.mem_append_right _ h)
   refine WP.seq ?_
   have plain: ∀an1 an2,den P Φ pins a an1 σ ⟨fun σ=>den P Φ pins b an2 σ k,k.exit,k.ret⟩=some r -> WP P n a (c8p (WP P n b Q) Q) ρ w:=by
    intro an1 an2 h
    exact a5d hU hΦ hm a an1 σ _ r hc.1 h E hpin T ρ0 (c8p (WP P n b Q) Q) hTa ⟨fun σ' Z π ρ w hρ' hR' h'=>a5d hU hΦ hm b an2 σ' k r hc.2 h' E hpin T ρ0 Q hTb hk Z π ρ w hρ' hR',fun i σ' Z π ρ w hρ' hR' h'=>hk.exit i σ' Z π ρ w hρ' hR' h',fun σ' Z π ρ w hρ' hR' h'=>hk.ret σ' Z π ρ w hρ' hR' h'⟩ Z π ρ w hρ hR
   cases an with
   | j al es a' b'=>
     refine a5d hU hΦ hm a a' σ _ r hc.1 h E hpin T ρ0 (c8p (WP P n b Q) Q) hTa ⟨fun σ' Z π ρ w hρ' hR' h'=> ?_,fun i σ' Z π ρ w hρ' hR' h'=>hk.exit i σ' Z π ρ w hρ' hR' h',fun σ' Z π ρ w hρ' hR' h'=>hk.ret σ' Z π ρ w hρ' hR' h'⟩ Z π ρ w hρ hR
     obtain ⟨s,hs,h'⟩:=c07 h'
     obtain ⟨Z2,π',_,hR2⟩:=b7z hU hR' hpin hs
     exact a5d hU hΦ hm b b' _ k r hc.2 h' E hpin T ρ0 Q hTb hk Z2 π' ρ w hρ' hR2
   | n=>exact plain _ _ h
   | s a' b'=>exact plain _ _ h
   | l inv al es a'=>exact plain _ _ h
   | g sp=>exact plain _ _ h
   | z _ _=>exact plain _ _ h
 | .cond c a b,an,σ,k,r,hc,h,E,hpin,T,ρ0,Q,hT,hk,Z,π,ρ,w,hρ,hR=>by
   simp only [a2v,qB] at hc
   simp only [den] at h
   split at h
   ·rename_i e he
    refine WP.cond (t:=e) hc.1 (e4o hR he) (fun ht=> ?_) (fun hf=> ?_)
    ·rw [if_pos ht] at h
     exact a5d hU hΦ hm a _ σ k r hc.2.1 h E hpin T ρ0 Q (fun t ht h=>hT t ht (List.mem_append_left _ h)) hk Z π ρ w hρ hR
    ·rw [if_neg (by rw [hf];simp)] at h
     exact a5d hU hΦ hm b _ σ k r hc.2.2 h E hpin T ρ0 Q (fun t ht h=>hT t ht (List.mem_append_right _ h)) hk Z π ρ w hρ hR
   ·cases h
 | .block id a,an,σ,k,r,hc,h,E,hpin,T,ρ0,Q,hT,hk,Z,π,ρ,w,hρ,hR=>by
   refine WP.block ?_
   refine a5d hU hΦ hm a an σ _ r hc h E hpin T ρ0 (d57 id Q) hT ⟨fun σ' Z π ρ w hρ' hR' h'=>hk.norm σ' Z π ρ w hρ' hR' h',fun i σ' Z π ρ w hρ' hR' h'=> ?_,fun σ' Z π ρ w hρ' hR' h'=>hk.ret σ' Z π ρ w hρ' hR' h'⟩ Z π ρ w hρ hR
   show (if i=id then Q .normal ρ w else Q (.exit i) ρ w)
   have h':(match Nat.beq i id with | true=>k.norm σ' | false=>k.exit i σ')=some r:=h'
   cases hb:Nat.beq i id with
   | true=>rw [hb] at h';rw [if_pos (qC hb)];exact hk.norm σ' Z π ρ w hρ' hR' h'
   | false=>rw [hb] at h';rw [if_neg (Nat.ne_of_beq_eq_false hb)];exact hk.exit i σ' Z π ρ w hρ' hR' h'
 | .loop a,an,σ,k,r,hc,h,E,hpin,T,ρ0,Q,hT,hk,Z,π,ρ,w,hρ,hR=>by
   cases an with
   | l inv al es an=>
     simp only [den] at h
     split at h
     ·rename_i hap
      obtain ⟨s,hs,h⟩:=c07 h
      obtain ⟨Z2,π',hz2,hR2⟩:=b7z hU hR hpin hs
      have hle2:Cx.Le (⟨Z,π',b39 (b2d al es s),w⟩:Cx) (cx Z2 π' (b2d al es s) w):=⟨hz2,Ext.refl _ _,fun _ h=>⟨h,rfl⟩⟩
      have hR3:Rel E Z2 π' (d69 σ inv al es s) ρ w:=c0z hR2 fun t ht hp=>AVR.le hle2 (c1x (X':=⟨Z,π',b39 (b2d al es s),w⟩) hp (hR.slot t) rfl rfl)
      refine WP.loop (fun kk ρ w=> ∃s Z π,(∀t,T t -> ρ t=ρ0 t) /\ Rel E Z π (d69 σ inv al es s) ρ w /\ d5 kk (fun rec s=>den P Φ pins a an (d69 σ inv al es s) ⟨fun σ'=>bindO (d0m pins al es σ') rec,k.exit,k.ret⟩) s=some r) FU ⟨s,Z2,π',hρ,hR3,h⟩ (fun ρ w ⟨_,_,_,_,_,h⟩=>by cases h) ?_
      rintro kk ρ1 w1 ⟨s,Z1,π1,hρ1,hR1,h⟩
      refine a5d hU hΦ hm a an _ _ r hc (show den P Φ pins a an (d69 σ inv al es s) ⟨fun σ'=>bindO (d0m pins al es σ') (d5 kk (fun rec s=>den P Φ pins a an (d69 σ inv al es s) ⟨fun σ'=>bindO (d0m pins al es σ') rec,k.exit,k.ret⟩)),k.exit,k.ret⟩=some r from h) (E.re Z1 w1) hpin (fun t=>T t \/ t∈inv) ρ1 (c8p (fun ρ w=> ∃s Z π,(∀t,T t -> ρ t=ρ0 t) /\ Rel E Z π (d69 σ inv al es s) ρ w /\ d5 kk (fun rec s=>den P Φ pins a an (d69 σ inv al es s) ⟨fun σ'=>bindO (d0m pins al es σ') rec,k.exit,k.ret⟩) s=some r) Q)
       (fun t ht=>ht.elim (hT t) (fun hi=>c3y hap hi)) ⟨fun σ' Z' π' ρ' w' hρ' hR' h'=> ?_,fun i σ' Z' π' ρ' w' hρ' hR' h'=>hk.exit i σ' Z' π' ρ' w' (fun t ht=>(hρ' t (.inl ht)).trans (hρ1 t ht)) (Rel.un hR1 hR') h',fun σ' Z' π' ρ' w' hρ' hR' h'=>hk.ret σ' Z' π' ρ' w' (fun t ht=>(hρ' t (.inl ht)).trans (hρ1 t ht)) (Rel.un hR1 hR') h'⟩ Z1 π1 ρ1 w1 (fun _ _=>rfl) (hR1.re hU)
      obtain ⟨s',hs',h'⟩:=c07 h'
      obtain ⟨Z3,π'',hz3,hR4⟩:=b7z hU hR' hpin hs'
      have hle:Cx.Le (⟨Z1,π'',b39 (b2d al es s'),w1⟩:Cx) (cx Z3 π'' (b2d al es s') w'):=⟨fun b hb=>hz3 b (hR'.zout b hb),hR'.ext.mono fun b hb hz=>hb.2 hz,fun _ h=>⟨h,rfl⟩⟩
      refine ⟨s',Z3,π'',fun t ht=>(hρ' t (.inl ht)).trans (hρ1 t ht),Rel.un hR1 (c0z hR4 fun t ht hp=> ?_),h'⟩
      have h1:=hR1.slot t
      rw [c9b,if_pos ⟨ht,hp⟩] at h1
      rw [hρ' t (.inr ht)]
      exact AVR.le hle (c1x (X':=⟨Z1,π'',b39 (b2d al es s'),w1⟩) hp h1 rfl rfl)
     ·cases h
   | n=>cases h
   | s _ _=>cases h
   | j _ _ _ _=>cases h
   | g _=>cases h
   | z _ _=>cases h
 | .exit id,an,σ,k,r,_,h,E,_,T,ρ0,Q,_,hk,Z,π,ρ,w,hρ,hR=>WP.exit (hk.exit id σ Z π ρ w hρ hR h)
 | .ret,an,σ,k,r,_,h,E,_,T,ρ0,Q,_,hk,Z,π,ρ,w,hρ,hR=>WP.ret (hk.ret σ Z π ρ w hρ hR h)
 | .rangeFunc _ _ _ _,_,_,_,_,_,h,_,_,_,_,_,_,_,_,_,_,_,_,_=>by cases h
 | .scope _,_,_,_,_,_,h,_,_,_,_,_,_,_,_,_,_,_,_,_=>by cases h
 | .label _,_,_,_,_,_,h,_,_,_,_,_,_,_,_,_,_,_,_,_=>by cases h
 | .goto _,_,_,_,_,_,h,_,_,_,_,_,_,_,_,_,_,_,_,_=>by cases h
 | .refuse _,_,_,_,_,_,h,_,_,_,_,_,_,_,_,_,_,_,_,_=>by cases h
end
end Go.SX
namespace Go.SX
open Go Go.PL
section
variable {P:Program} {U:Uni} {Φ:Phi U} {E:Env} {n:Nat}
def b58 (n:Nat) (rs:List ResultVar):Bool:=rs.all fun r=>match r with | .tmp t=>decide (t<n) | .cell t _=>decide (t<n)
def b9q (tmps:Array Value):ResultVar -> Sem Value
 | .tmp t=>pure (tmps.getD t undef)
 | .cell a t=>do loadVar t (<- asAddr (tmps.getD a undef))
theorem c34 {α β:Type} {f:α -> Sem β} {w:World} {p:α -> β -> Prop}: ∀{l:List α},(∀x∈l,∃u,(f x).run P w= .ok u w /\ p x u) -> ∃us,(l.mapM f).run P w= .ok us w /\ m7 p l us
 | [],_=>⟨[],by simp,trivial⟩
 | x::l,h=>by
   obtain ⟨u,hu,hp⟩:=h x (by simp)
   obtain ⟨us,hus,hps⟩:=c34 (l:=l) fun y hy=>h y (by simp [hy])
   refine ⟨u::us,?_,hp,hps⟩
   rw [List.mapM_cons]
   simp [hu,hus]
theorem c2a {σ:U.St}: ∀rv:List ResultVar,FZ σ (f05 σ rv)
 | [],id,m,h=>by cases h
 | .tmp t::rv,id,m,h=>c2a rv id m h
 | .cell t ty::rv,id,m,h=>by
   simp only [f05] at h
   split at h
   ·split at h
    ·rcases qK.1 h with h | h
     ·exact d2c _ id m h
     ·exact c2a rv id m h
    ·exact c2a rv id m h
   ·exact c2a rv id m h
theorem e4y (hU:UOK U) {Z:Nat -> Prop} {π:Nat -> Value} {σ:U.St} {ρ:Nat -> Value} {w:World} (h:Rel E Z π σ ρ w) {rv:ResultVar} (hc:(match rv with | .tmp t=>decide (t<n) | .cell t _=>decide (t<n))=true) {a:U.AV} (hr:e2r P σ rv=some a):
  ∃u,(b9q (Fr n ρ).tmps rv).run P w= .ok u w /\ AVR (cx Z π σ w) a u:=by
 cases rv with
 | tmp t=>
   have hlt:t<n:=by simpa using hc
   cases hr
   refine ⟨ρ t,?_,h.slot t⟩
   simp [b9q,Frd,hlt]
 | cell t ty=>
   have hlt:t<n:=by simpa using hc
   simp only [e2r] at hr
   split at hr
   ·rename_i id hsl
    split at hr
    ·rename_i t0 b hmem
     split at hr
     ·rename_i hf
      have hr:=qH hr
      rw [hr] at hf
      have hs:=h.slot t
      rw [hsl] at hs
      have hm:=h.mem id
      rw [hmem] at hm
      obtain ⟨blk,u0,hv,hM,ha⟩:=hm
      have ha:a18 (cx Z π σ w) a u0:=by rw [<- hr];exact e21 h ha
      have hL:Loc (cx Z π σ w) a ⟨blk,0,none⟩:=⟨u0,ha,hM.ca⟩
      obtain ⟨u,hu,hrun⟩:=d3i (P:=P) hU hf hL
      refine ⟨u,?_,AVR.of1 hu⟩
      have hρ:ρ t= .pointer (some ⟨blk,0,none⟩):=by rw [show ρ t=π id from hs.2.1];exact hv
      have hrun:(Instr.loadAt ty (.pointer (some ⟨blk,0,none⟩))).run P w= .ok u w:=hrun
      have hl:(loadVar ty ⟨blk,0,none⟩).run P w= .ok u w:=by simpa [Instr.loadAt,Instr.sureAddr] using hrun
      simp [b9q,Frd,hlt,hρ,asAddr,hl]
     ·cases hr
    ·cases hr
   ·cases hr
theorem c3o {fn:Func} {tmps:Array Value} {w:World} {us:List Value} (h:(fn.results.toList.mapM (b9q tmps)).run P w= .ok us w):(results fn tmps).run P w= .ok (f1h us) w:=by
 have e:results fn tmps=(do
   let vs <- fn.results.mapM (b9q tmps)
   pure (if h:vs.size=1 then vs[0] else .tuple vs):Sem Value):=by
  unfold results
  congr 1
 have h2:(fn.results.mapM (b9q tmps)).run P w= .ok us.toArray w:=by
  rw [Array.mapM_eq_mapM_toList]
  simp [h]
 rw [e,Sem.run_bind,h2]
 simp only [Result.andThen_ok]
 cases us with
 | nil=>rfl
 | cons u us=>cases us with
   | nil=>rfl
   | cons u' us=>simp [f1h]
def f5x (σ:U.St) (π:Nat -> Value) (o:Option Nat) (v:Value):Prop:=match o with
 | none=>hdV v=none
 | some id=>v=π id /\ ∀b,hdV v=some b -> MB (σ.mem id) (π id) b
theorem c1t (hU:UOK U) {Z:Nat -> Prop} {π:Nat -> Value} {σ:U.St} {ρ:Nat -> Value} {w:World} (h:Rel E Z π σ ρ w): ∀(rs:List (RK U.C)) (rvs:List ResultVar) (us0:List Nat) (x:Ress U rs) (vals:List Value),d7j P σ us0 rs rvs=some x -> m7 (fun r u=> ∀a,e2r P σ r=some a -> AVR (cx Z π σ w) a u) rvs vals ->
  ∃(fz:List (Nat×U.MC)) (ow:List (Option Nat)),FZ σ fz /\ (∀q∈fz,q.1∉us0) /\ m7 (f5x σ π) ow (b8m rs vals) /\ (∀id,some id∈ow -> id∉us0 /\ ∀q∈fz,q.1≠id) /\ (∀(i j:Nat) id,i≠j -> ow[i]? =some (some id) -> ow[j]? ≠some (some id)) /\
   ∀Z',(∀b,Z b -> Z' b) -> (∀b,b1r σ π fz b -> Z' b) -> RRs (cz Z' w) rs x vals
 | [],[],us0,x,[],_,_=>⟨[],[],(fun _ _ h=>by cases h),(fun _ h=>by cases h),trivial,(fun _ h=>by cases h),(fun i j id _ h=>by simp at h),fun _ _ _=>trivial⟩
 | [],[],us0,x,_::_,_,h=>h.elim
 | [],_::_,us0,x,vals,hd,_=>by cases hd
 | r::rs,[],us0,x,vals,hd,_=>by cases r<;>cases hd
 | r::rs,rv::rvs,us0,x,[],_,h=>h.elim
 | .v c::rs,rv::rvs,us0,(x,xs),u::vals,hd,hv=>by
   simp only [d7j] at hd
   split at hd
   ·rename_i a ha
    obtain ⟨h1,h2⟩:=a1i hd
    obtain ⟨fz,ow,g1,g2,g3,g4,g5,g6⟩:=c1t hU h rs rvs us0 xs vals h2 hv.2
    refine ⟨fz,ow,g1,g2,g3,g4,g5,fun Z' hz hb=>⟨?_,g6 Z' hz hb⟩⟩
    exact a84 (X':=cz Z' w) (a15 hU c x).1 (b7e hU h1 (a6k (c4r hU h1) (hv.1 a ha))) rfl hz
   ·cases hd
 | .ls c::rs,rv::rvs,us0,(x,xs),u::vals,hd,hv=>by
   simp only [d7j] at hd
   split at hd
   ·rename_i a ha
    split at hd
    ·rename_i x' us' hl
     obtain ⟨h1,h2⟩:=a1i hd
     have hx:x'=x:=qH h1
     subst hx
     obtain ⟨fz,ow,g1,g2,g3,g4,g5,g6⟩:=c1t hU h rs rvs us' xs vals h2 hv.2
     have hav:=hv.1 a ha
     have stay:us'=us0 -> (∀Z',(∀b,Z b -> Z' b) -> j5 (Rp c) (cz Z' w).G w u x') -> ∃(fz:List (Nat×U.MC)) (ow:List (Option Nat)),FZ σ fz /\ (∀q∈fz,q.1∉us0) /\ m7 (f5x σ π) ow (b8m (.ls c::rs) (u::vals)) /\ (∀id,some id∈ow -> id∉us0 /\ ∀q∈fz,q.1≠id) /\ (∀(i j:Nat) id,i≠j -> ow[i]? =some (some id) -> ow[j]? ≠some (some id)) /\
       ∀Z',(∀b,Z b -> Z' b) -> (∀b,b1r σ π fz b -> Z' b) -> RRs (cz Z' w) (.ls c::rs) (x',xs) (u::vals):=by
      intro e hr
      subst e
      exact ⟨fz,ow,g1,g2,g3,g4,g5,fun Z' hz hb=>⟨hr Z' hz,g6 Z' hz hb⟩⟩
     have wk: ∀{l:List (U.T c)},j5 (Rp c) (cx Z π σ w).G w u l -> ∀Z',(∀b,Z b -> Z' b) -> j5 (Rp c) (cz Z' w).G w u l:=fun hr Z' hz=>j5.weaken hr fun b _ hb hz'=>hb (hz b hz')
     unfold resL at hl
     split at hl
     ·split at hl
      ·rename_i l hc
       obtain ⟨he,hx⟩:=a2b (G:=noG) (w:=w) hc
       subst he;subst hx
       cases hl
       exact stay rfl (wk hav)
      ·cases hl
     ·cases hl
      exact stay rfl fun Z' _=> .inl ⟨hav,rfl⟩
     ·rename_i id
      have hm:=h.mem id
      split at hl
      ·rename_i e c' l' hany hmem
       split at hl
       ·rename_i l hc
        obtain ⟨he,hx⟩:=a2b (G:=noG) (w:=w) hc
        subst he;subst hx
        cases hl
        rw [hmem] at hm
        have hnotin:id∉us0:=fun hin=>by
         have:(us0.any (Nat.beq id))=true:=List.any_eq_true.2 ⟨id,hin,Nat.beq_refl id⟩
         rw [hany] at this;cases this
        refine ⟨(id,.fz c' x')::fz,ow,fun i m hh=> ?_,fun q hq=> ?_,g3,fun i hi=> ?_,g5,fun Z' hz hb=>⟨?_,g6 Z' hz fun b ⟨q,hq,hb'⟩=>hb b ⟨q,qJ _ hq,hb'⟩⟩⟩
        ·rcases qO.1 hh with e1 | e1
         ·cases e1;exact ⟨e,c',x',hmem,rfl⟩
         ·exact g1 i m e1
        ·rcases qO.1 hq with e1 | e1
         ·rw [e1];exact hnotin
         ·exact fun h=>g2 q e1 (qJ _ h)
        ·obtain ⟨k1,k2⟩:=g4 i hi
         refine ⟨fun h=>k1 (qJ _ h),fun q hq=> ?_⟩
         rcases qO.1 hq with e1 | e1
         ·rw [e1];exact fun e2=>k1 (by rw [<- e2];exact qI)
         ·exact k2 q e1
        ·show j5 (Rp c') (cz Z' w).G w u x'
         rw [show u=π id from hav.2.1]
         refine b5j (X:=cx Z π σ w) (Z':=Z') hm hz fun b hb'=>hb b ⟨_,qI,?_⟩
         show MB (σ.mem id) (π id) b
         rw [hmem]
         obtain ⟨css,hO,_⟩:=hm
         obtain ⟨ad,cap,hv,_⟩:=hO.shape
         exact (a6t hv).1 hb'
       ·cases hl
      ·rename_i c' l' hmem
       split at hl
       ·rename_i l hc
        obtain ⟨he,hx⟩:=a2b (G:=noG) (w:=w) hc
        subst he;subst hx
        cases hl
        rw [hmem] at hm
        exact stay rfl (wk (by rw [show u=π id from hav.2.1];exact hm))
       ·cases hl
      ·cases hl
     ·cases hl
    ·cases hd
   ·cases hd
 | .ow e c::rs,rv::rvs,us0,(x,xs),u::vals,hd,hv=>by
   simp only [d7j] at hd
   split at hd
   ·rename_i a ha
    split at hd
    ·rename_i x' us' hl
     obtain ⟨h1,h2⟩:=a1i hd
     have hx:x'=x:=qH h1
     subst hx
     obtain ⟨fz,ow,g1,g2,g3,g4,g5,g6⟩:=c1t hU h rs rvs us' xs vals h2 hv.2
     have hav:=hv.1 a ha
     unfold resO at hl
     split at hl
     ·cases hl
      have hu:u= .slice none 0 0:=hav
      refine ⟨fz,none::ow,g1,g2,⟨by rw [hu];rfl,g3⟩,fun i hi=>g4 i (by simpa using hi),fun i j id hne hi=> ?_,fun Z' hz hb=>⟨?_,g6 Z' hz hb⟩⟩
      ·cases i with
       | zero=>simp at hi
       | succ i=>cases j with
         | zero=>simp
         | succ j=>exact g5 i j id (by omega) hi
      ·rw [hu];exact ⟨[],Own.nil _ _ _ _ _,trivial⟩
     ·rename_i id
      have hm:=h.mem id
      split at hl
      ·rename_i e' c' l' hany hmem
       split at hl
       ·rename_i l hbe hc
        have hee:=qC hbe
        subst hee
        obtain ⟨he,hx⟩:=a2b (G:=noG) (w:=w) hc
        subst he;subst hx
        cases hl
        have hnotin:id∉us0:=fun hin=>by
         have:(us0.any (Nat.beq id))=true:=List.any_eq_true.2 ⟨id,hin,Nat.beq_refl id⟩
         rw [hany] at this;cases this
        have hne: ∀i,some i∈ow -> i≠id:=fun i hi e1=>(g4 i hi).1 (by rw [e1];exact qI)
        have hu:u=π id:=hav.2.1
        refine ⟨fz,some id::ow,g1,fun q hq h=>g2 q hq (qJ _ h),⟨⟨hu,fun b hb=> ?_⟩,g3⟩,fun i hi=> ?_,fun i j k hij hi hj=> ?_,fun Z' hz hb=>⟨?_,g6 Z' hz hb⟩⟩
        ·rw [hmem,<- hu];exact hb
        ·rcases qO.1 hi with e1 | e1
         ·cases e1
          exact ⟨hnotin,fun q hq e2=>g2 q hq (by rw [e2];exact qI)⟩
         ·obtain ⟨k1,k2⟩:=g4 i e1
          exact ⟨fun h=>k1 (qJ _ h),k2⟩
        ·cases i with
         | zero=>
           simp at hi
           cases j with
           | zero=>exact hij rfl
           | succ j=>
             have hj:ow[j]? =some (some k):=by simpa using hj
             exact hne k (qE hj) hi.symm
         | succ i=>cases j with
           | zero=>
             simp at hj
             have hi:ow[i]? =some (some k):=by simpa using hi
             exact hne k (qE hi) hj.symm
           | succ j=>exact g5 i j k (by omega) hi hj
        ·rw [hmem] at hm
         show MR (cz Z' w) (.sl e c' x') u
         rw [hu]
         obtain ⟨css,hO,hr⟩:=hm
         exact ⟨css,hO,hr.mono fun r xv hh=>(Rp c').weaken hh fun b _ hb hz'=>hb (hz b hz')⟩
       ·cases hl
      ·cases hl
     ·cases hl
    ·cases hd
   ·cases hd
 | .bo t c::rs,rv::rvs,us0,(x,xs),u::vals,hd,hv=>by
   simp only [d7j] at hd
   split at hd
   case h_2=>cases hd
   rename_i a ha
   split at hd
   case h_2=>cases hd
   rename_i x' us' hl
   obtain ⟨h1,h2⟩:=a1i hd
   have hx:x'=x:=qH h1
   subst hx
   obtain ⟨fz,ow,g1,g2,g3,g4,g5,g6⟩:=c1t hU h rs rvs us' xs vals h2 hv.2
   have hav:=hv.1 a ha
   unfold resP at hl
   split at hl
   ·cases hl
    have hu:u= .pointer none:=hav
    refine ⟨fz,none::ow,g1,g2,⟨by rw [hu];rfl,g3⟩,fun i hi=>g4 i (by simpa using hi),fun i j id hne hi=> ?_,fun Z' hz hb=>⟨hu,g6 Z' hz hb⟩⟩
    cases i with
    | zero=>simp at hi
    | succ i=>cases j with
      | zero=>simp
      | succ j=>exact g5 i j id (by omega) hi
   ·rename_i id
    have hm:=h.mem id
    split at hl
    case h_2=>cases hl
    rename_i t' b hany hmem
    split at hl
    case h_2=>cases hl
    rename_i xv hbe hp
    have hee:=qC hbe
    subst hee
    cases hl
    have hnotin:id∉us0:=fun hin=>by
     have:(us0.any (Nat.beq id))=true:=List.any_eq_true.2 ⟨id,hin,Nat.beq_refl id⟩
     rw [hany] at this;cases this
    have hne: ∀i,some i∈ow -> i≠id:=fun i hi e1=>(g4 i hi).1 (by rw [e1];exact qI)
    have hu:u=π id:=hav.2.1
    refine ⟨fz,some id::ow,g1,fun q hq h=>g2 q hq (qJ _ h),⟨⟨hu,fun b hb=> ?_⟩,g3⟩,fun i hi=> ?_,fun i j k hij hi hj=> ?_,fun Z' hz hb=>⟨?_,g6 Z' hz hb⟩⟩
    ·rw [hmem,<- hu];exact hb
    ·rcases qO.1 hi with e1 | e1
     ·cases e1
      exact ⟨hnotin,fun q hq e2=>g2 q hq (by rw [e2];exact qI)⟩
     ·obtain ⟨k1,k2⟩:=g4 i e1
      exact ⟨fun h=>k1 (qJ _ h),k2⟩
    ·cases i with
     | zero=>
       simp at hi
       cases j with
       | zero=>exact hij rfl
       | succ j=>
         have hj:ow[j]? =some (some k):=by simpa using hj
         exact hne k (qE hj) hi.symm
     | succ i=>cases j with
       | zero=>
         simp at hj
         have hi:ow[i]? =some (some k):=by simpa using hi
         exact hne k (qE hi) hj.symm
       | succ j=>exact g5 i j k (by omega) hi hj
    ·rw [hmem] at hm
     obtain ⟨blk,u1,hv1,hM,hr⟩:=hm
     show MR (cz Z' w) (.box t (inj c xv)) u
     exact ⟨blk,u1,by rw [hu];exact hv1,hM,a84 (X':=cz Z' w) (a15 hU c xv).1 (b7e hU hp hr) rfl hz⟩
   ·cases hl
theorem b42 {C:Type}: ∀(ps:List (PK C)) (k i:Nat),i∈ioI k ps -> k <= i
 | [],k,i,h=>by cases h
 | .io t c::ps,k,i,h=>by
   rcases qO.1 h with e | e
   ·omega
   ·have:=b42 ps (k+1) i e;omega
 | .im t c m::ps,k,i,h=>by
   rcases qO.1 h with e | e
   ·omega
   ·have:=b42 ps (k+1) i e;omega
 | .po b f e c::ps,k,i,h=>by have:=b42 ps (k+1) i h;omega
 | .so e c::ps,k,i,h=>by
   rcases qO.1 h with e | e
   ·omega
   ·have:=b42 ps (k+1) i e;omega
 | .cl f cs::ps,k,i,h=>by have:=b42 ps (k+1) i h;omega
 | .bn f c::ps,k,i,h=>by have:=b42 ps (k+1) i h;omega
 | .km f t::ps,k,i,h=>by have:=b42 ps (k+1) i h;omega
 | .vl f t c::ps,k,i,h=>by have:=b42 ps (k+1) i h;omega
 | .v c::ps,k,i,h=>by have:=b42 ps (k+1) i h;omega
 | .ls c::ps,k,i,h=>by have:=b42 ps (k+1) i h;omega
 | .ow e c::ps,k,i,h=>by have:=b42 ps (k+1) i h;omega
 | .rp t c::ps,k,i,h=>by have:=b42 ps (k+1) i h;omega
theorem c3s: ∀(ps:List (PK U.C)) (k i:Nat),i∈ioI k ps↔k <= i /\ b50 ps (i-k)
 | [],k,i=>by simp [ioI,b50]
 | p::ps,k,i=>by
   have ih:=c3s ps (k+1) i
   have tl:k+1 <= i -> (b50 (p::ps) (i-k)↔b50 ps (i-(k+1))):=fun hk=>by
    rw [show i-k=(i-(k+1))+1 by omega]
    simp [b50]
   by_cases hik:i=k
   ·subst hik
    have hno:i∉ioI (i+1) ps:=fun h=>by have:=b42 ps (i+1) i h;omega
    cases p<;>simp [ioI,b50,hno]
   ·cases p<;>simp only [ioI,qO,hik,false_or]<;>rw [ih]<;>(constructor<;>intro ⟨h1,h2⟩<;>first | exact ⟨by omega,(tl (by omega)).2 h2⟩ | exact ⟨by omega,(tl (by omega)).1 h2⟩)
def b1o (σ:U.St) (π:Nat -> Value):List (PK U.C) -> List Value -> List Value
 | .po b f _ _::ps,u::us=>(match d7o σ b f with | some j=>π j | none=>u)::b1o σ π ps us
 | _::ps,u::us=>u::b1o σ π ps us
 | _,us=>us
theorem c5m (σ:U.St) (π:Nat -> Value): ∀(ps:List (PK U.C)) (us:List Value),(b1o σ π ps us).length=us.length
 | [],us=>by cases us<;>rfl
 | p::ps,[]=>by cases p<;>rfl
 | p::ps,u::us=>by cases p<;>simp [b1o,c5m σ π ps us]
theorem c28 (σ:U.St) (π:Nat -> Value): ∀(ps:List (PK U.C)) (us:List Value) (i:Nat) (p:PK U.C),ps[i]? =some p -> c6n p=false -> (b1o σ π ps us)[i]? =us[i]?
 | [],us,i,p,h,_=>by simp at h
 | p0::ps,[],i,p,h,_=>by cases p0<;>rfl
 | p0::ps,u::us,0,p,h,hn=>by
   simp at h;subst h
   cases p0<;>first | rfl | cases hn
 | p0::ps,u::us,i+1,p,h,hn=>by
   have:=c28 σ π ps us i p (by simpa using h) hn
   cases p0<;>simpa [b1o] using this
theorem d04 (σ:U.St) (π:Nat -> Value): ∀(ps:List (PK U.C)) (us:List Value) (i b f j:Nat) (e:TypeId) (c:U.C),ps[i]? =some (.po b f e c) -> i<us.length -> d7o σ b f=some j -> (b1o σ π ps us)[i]? =some (π j)
 | [],us,i,b,f,j,e,c,h,_,_=>by simp at h
 | p0::ps,[],i,b,f,j,e,c,h,hl,_=>by simp at hl
 | p0::ps,u::us,0,b,f,j,e,c,h,_,hp=>by
   simp at h;subst h
   simp [b1o,hp]
 | p0::ps,u::us,i+1,b,f,j,e,c,h,hl,hp=>by
   have:=d04 σ π ps us i b f j e c (by simpa using h) (by simpa using hl) hp
   cases p0<;>simpa [b1o] using this
theorem e1s {σ:U.St}: ∀(ps:List (PK U.C)) (k:Nat) (os:Outs U ps),c0u σ k ps=some os -> ∀(i b f:Nat) (e:TypeId) (c:U.C),ps[i]? =some (.po b f e c) -> ∃j,d7o σ b f=some j
 | [],k,os,_,i,b,f,e,c,h=>by simp at h
 | p::ps,k,os,hd,i,b,f,e,c,h=>by
   have step: ∀os',c0u σ (k+1) ps=some os' -> 0<i -> ∃j,d7o σ b f=some j:=fun os' hd' hi=>e1s ps (k+1) os' hd' (i-1) b f e c (by rw [show i=(i-1)+1 by omega] at h;simpa using h)
   have pos:c6n p=false -> 0<i:=fun hn=>by
    rcases Nat.eq_zero_or_pos i with e1 | e1
    ·subst e1;simp at h;subst h;cases hn
    ·exact e1
   cases p with
   | v c=>exact step os hd (pos rfl)
   | ls c=>exact step os hd (pos rfl)
   | ow e c=>exact step os hd (pos rfl)
   | rp t c=>exact step os hd (pos rfl)
   | cl f cs=>exact step os hd (pos rfl)
   | bn f c=>exact step os hd (pos rfl)
   | km f t=>exact step os hd (pos rfl)
   | vl f t c=>exact step os hd (pos rfl)
   | io t c=>
     obtain ⟨o,os⟩:=os
     simp only [c0u] at hd
     split at hd
     ·split at hd
      ·exact step os (a1i hd).2 (pos rfl)
      ·cases hd
     ·cases hd
   | so e c=>
     obtain ⟨o,os⟩:=os
     simp only [c0u] at hd
     split at hd
     ·split at hd
      ·exact step os (a1i hd).2 (pos rfl)
      ·cases hd
     ·cases hd
   | im t c m=>
     obtain ⟨o,os⟩:=os
     simp only [c0u] at hd
     split at hd
     ·split at hd
      ·exact step os (a1i hd).2 (pos rfl)
      ·cases hd
     ·cases hd
   | po b0 f0 e0 c0=>
     obtain ⟨o,os⟩:=os
     simp only [c0u] at hd
     split at hd
     case h_2=>cases hd
     rename_i j hj
     split at hd
     case h_2=>cases hd
     split at hd
     case h_2=>cases hd
     rcases Nat.eq_zero_or_pos i with e1 | e1
     ·subst e1;simp at h;obtain ⟨rfl,rfl,_⟩:=h;exact ⟨j,hj⟩
     ·exact step os (a1i hd).2 e1
theorem b0w (hU:UOK U) {Z:Nat -> Prop} {π:Nat -> Value} {σ:U.St} {ρ:Nat -> Value} {w:World} (h:Rel E Z π σ ρ w): ∀(ps:List (PK U.C)) (k:Nat) (os:Outs U ps) (us:List Value),c0u σ k ps=some os -> us.length=ps.length -> (∀(j:Nat) v,us[j]? =some v -> (k+j)∈ioI k ps -> π (k+j)=v) ->
  (∀X':Cx,(∀b,Z b -> X'.Z b) -> X'.w=w -> (∀(i:Nat) t c m,ps[i]? =some (.im t c m) -> ∀q∈m,∃j,d7o σ (k+i) q.1=some j /\ X'.us q.2 /\ X'.π q.2=π j) -> OR X' ps os (b1o σ π ps us)) /\ m7 (fun id v=>v=π id /\ ∀b,hdV v=some b -> MB (σ.mem id) (π id) b) (ioP σ k ps) (ioB ps (b1o σ π ps us))
 | [],k,os,[],_,_,_=>⟨fun _ _ _ _=>trivial,trivial⟩
 | [],k,os,_::_,_,hl,_=>by simp at hl
 | _::_,k,os,[],_,hl,_=>by simp at hl
 | p::ps,k,os,u::us,hd,hl,hπ=>by
   have hπ': ∀(j:Nat) v,us[j]? =some v -> (k+1+j)∈ioI (k+1) ps -> π (k+1+j)=v:=fun j v hv hm=>by
    have:=hπ (j+1) v (by simpa using hv)
    rw [show k+(j+1)=k+1+j by omega] at this
    refine this ?_
    cases p<;>simp [ioI,hm]
   have hl':us.length=ps.length:=by simpa using hl
   have sub: ∀{X':Cx},(∀(i:Nat) t c m,(p::ps)[i]? =some (.im t c m) -> ∀q∈m,∃j,d7o σ (k+i) q.1=some j /\ X'.us q.2 /\ X'.π q.2=π j) -> ∀(i:Nat) t c m,ps[i]? =some (.im t c m) -> ∀q∈m,∃j,d7o σ (k+1+i) q.1=some j /\ X'.us q.2 /\ X'.π q.2=π j:=fun hm i t c m hp q hq=>by
    have:=hm (i+1) t c m (by simpa using hp) q hq
    rwa [show k+(i+1)=k+1+i by omega] at this
   cases p with
   | v c=>obtain ⟨g1,g2⟩:=b0w hU h ps (k+1) os us hd hl' hπ';exact ⟨fun X' hz hw hm=>g1 X' hz hw (sub hm),g2⟩
   | ls c=>obtain ⟨g1,g2⟩:=b0w hU h ps (k+1) os us hd hl' hπ';exact ⟨fun X' hz hw hm=>g1 X' hz hw (sub hm),g2⟩
   | ow e c=>obtain ⟨g1,g2⟩:=b0w hU h ps (k+1) os us hd hl' hπ';exact ⟨fun X' hz hw hm=>g1 X' hz hw (sub hm),g2⟩
   | rp t c=>obtain ⟨g1,g2⟩:=b0w hU h ps (k+1) os us hd hl' hπ';exact ⟨fun X' hz hw hm=>g1 X' hz hw (sub hm),g2⟩
   | cl f cs=>obtain ⟨g1,g2⟩:=b0w hU h ps (k+1) os us hd hl' hπ';exact ⟨fun X' hz hw hm=>g1 X' hz hw (sub hm),g2⟩
   | bn f c=>obtain ⟨g1,g2⟩:=b0w hU h ps (k+1) os us hd hl' hπ';exact ⟨fun X' hz hw hm=>g1 X' hz hw (sub hm),g2⟩
   | km f t=>obtain ⟨g1,g2⟩:=b0w hU h ps (k+1) os us hd hl' hπ';exact ⟨fun X' hz hw hm=>g1 X' hz hw (sub hm),g2⟩
   | vl f t c=>obtain ⟨g1,g2⟩:=b0w hU h ps (k+1) os us hd hl' hπ';exact ⟨fun X' hz hw hm=>g1 X' hz hw (sub hm),g2⟩
   | io t c=>
     obtain ⟨o,os⟩:=os
     simp only [c0u] at hd
     split at hd
     ·rename_i t' b hmem
      split at hd
      ·rename_i hbe
       have hee:=qC hbe
       subst hee
       obtain ⟨h1,h2⟩:=a1i hd
       obtain ⟨g1,g2⟩:=b0w hU h ps (k+1) os us h2 hl' hπ'
       have hu:π k=u:=hπ 0 u rfl (by simp [ioI])
       have hm:=h.mem k
       rw [hmem] at hm
       obtain ⟨blk,u1,hv,hM,hr⟩:=hm
       refine ⟨fun X' hz hw hmk=>⟨⟨blk,u1,by rw [<- hu];exact hv,by rw [hw];exact hM,?_⟩,g1 X' hz hw (sub hmk)⟩,⟨hu.symm,fun bb hb=> ?_⟩,g2⟩
       ·exact a84 (X':=X') (a15 hU c o).1 (b7e hU h1 hr) hw hz
       ·rw [hmem,hu];exact hb
      ·cases hd
     ·cases hd
   | im t c m=>
     obtain ⟨o,os⟩:=os
     simp only [c0u] at hd
     split at hd
     ·rename_i t' c' fs hmem
      split at hd
      ·rename_i hbe
       simp only [qB] at hbe
       have hee:=qC hbe.1
       subst hee
       have hcc:=b4x hbe.2
       subst hcc
       obtain ⟨h1,h2⟩:=a1i hd
       obtain ⟨g1,g2⟩:=b0w hU h ps (k+1) os us h2 hl' hπ'
       have hu:π k=u:=hπ 0 u rfl (by simp [ioI])
       have hm:=h.mem k
       rw [hmem] at hm
       obtain ⟨blk,u1,hv,hM,css,hu1,hlay,hpp,hr⟩:=hm
       refine ⟨fun X' hz hw hmk=>⟨?_,g1 X' hz hw (sub hmk)⟩,⟨hu.symm,fun bb hb=> ?_⟩,g2⟩
       ·obtain ⟨k1,k2,k3⟩:=c77 hU (X:=cx Z π σ w) (X':=X') hlay hpp hr h1 hw hz fun j jd hj=>by
         obtain ⟨i,hi,hus,hpi⟩:=hmk 0 t c m rfl (j,jd) hj
         have hi:c0d fs j=some i:=by
          have:d7o σ (k+0) j=c0d fs j:=by simp [d7o,hmem]
          rw [<- this];exact hi
         exact ⟨i,b5y hi,hus,hpi⟩
        exact ⟨blk,u1,by rw [<- hu];exact hv,by rw [hw];exact hM,css,hu1,k1,k2,k3⟩
       ·rw [hmem,hu];exact hb
      ·cases hd
     ·cases hd
   | so e0 c0=>
     obtain ⟨o,os⟩:=os
     simp only [c0u] at hd
     split at hd
     case h_2=>cases hd
     rename_i e' c' l hmem
     split at hd
     case h_2=>cases hd
     rename_i hbe
     have hee:=qC hbe
     subst hee
     obtain ⟨h1,h2⟩:=a1i hd
     obtain ⟨he,hx⟩:=a2b (G:=noG) (w:=w) h1
     have hx:o=he▸l:=hx
     subst he;subst hx
     obtain ⟨g1,g2⟩:=b0w hU h ps (k+1) os us h2 hl' hπ'
     have hu:π k=u:=hπ 0 u rfl (by simp [ioI])
     have hm:=h.mem k
     rw [hmem] at hm
     refine ⟨fun X' hz hw hmk=>⟨?_,g1 X' hz hw (sub hmk)⟩,⟨hu.symm,fun bb hb=>by rw [hmem,hu];exact hb⟩,g2⟩
     obtain ⟨css,hO,hr⟩:=hm
     refine ⟨css,by rw [<- hu,hw];exact hO,hr.mono fun r x hh=> ?_⟩
     rw [hw]
     exact (Rp _).weaken hh fun b _ hb hz'=>hb (hz b hz')
   | po b0 f0 e0 c0=>
     obtain ⟨o,os⟩:=os
     simp only [c0u] at hd
     split at hd
     case h_2=>cases hd
     rename_i j hj
     split at hd
     case h_2=>cases hd
     rename_i e' c' l hmem
     split at hd
     case h_2=>cases hd
     rename_i hbe
     have hee:=qC hbe
     subst hee
     obtain ⟨h1,h2⟩:=a1i hd
     obtain ⟨he,hx⟩:=a2b (G:=noG) (w:=w) h1
     have hx:o=he▸l:=hx
     subst he;subst hx
     obtain ⟨g1,g2⟩:=b0w hU h ps (k+1) os us h2 hl' hπ'
     have hm:=h.mem j
     rw [hmem] at hm
     simp only [b1o,ioP,hj]
     refine ⟨fun X' hz hw hmk=>⟨?_,g1 X' hz hw (sub hmk)⟩,⟨rfl,fun bb hb=>by rw [hmem];exact hb⟩,g2⟩
     obtain ⟨css,hO,hr⟩:=hm
     refine ⟨css,by rw [hw];exact hO,hr.mono fun r x hh=> ?_⟩
     rw [hw]
     exact (Rp _).weaken hh fun b _ hb hz'=>hb (hz b hz')
theorem d4n {all:List (PK U.C)}: ∀(ps:List (PK U.C)) (k:Nat),b6e all k ps=true -> ∀(i:Nat) t c m q,ps[i]? =some (.im t c m) -> q∈m -> ∃e c',all[q.2]? =some (.po (k+i) q.1 e c')
 | [],k,_,i,t,c,m,q,h,_=>by simp at h
 | p0::ps,k,h,i,t,c,m,q,hp,hq=>by
   have step:b6e all (k+1) ps=true:=by
    cases p0<;>first
     | exact h
     | (simp only [b6e,qB] at h;exact h.2)
   cases i with
   | zero=>
     simp at hp
     subst hp
     simp only [b6e,qB] at h
     have h1:=List.all_eq_true.1 h.1 q hq
     split at h1
     ·rename_i b f e c' hx
      simp only [qB] at h1
      have e1:=qC h1.1
      have e2:=qC h1.2
      exact ⟨e,c',by rw [hx,e1,e2];rfl⟩
     ·cases h1
   | succ i=>
     obtain ⟨e,c',hx⟩:=d4n ps (k+1) step i t c m q (by simpa using hp) hq
     exact ⟨e,c',by rw [hx,show k+1+i=k+(i+1) by omega]⟩
theorem d9e (hU:UOK U) {s:Sig U} {w0:World} {G Z0:Nat -> Prop} {us:List Value} (hlen:us.length=s.ps.length) (hmi:b6e s.ps 0 s.ps=true) {Z:Nat -> Prop} {π:Nat -> Value} {σ:U.St} {ρ:Nat -> Value} {w:World} (h:Rel ⟨w0,G,Z0,b50 s.ps,c0g us⟩ Z π σ ρ w) {fn:Func} (hc:b58 n fn.results.toList=true) {r:Ress U s.rs×Outs U s.ps} (hr:f6l P s fn.results.toList σ=some r):
  ∃v,(results fn (Fr n ρ).tmps).run P w= .ok v w /\ Post s Z0 G w0 us r v w:=by
 unfold f6l at hr
 split at hr
 case h_2=>cases hr
 rename_i hnd
 split at hr
 case h_2=>cases hr
 rename_i x hx
 split at hr
 case h_2=>cases hr
 rename_i os hos
 cases hr
 have hsome: ∀(rs:List (RK U.C)) (rvs:List ResultVar) (us0:List Nat) (x:Ress U rs),d7j P σ us0 rs rvs=some x -> ∀rv∈rvs,∃a,e2r P σ rv=some a:=by
  intro rs
  induction rs with
  | nil=>intro rvs us0 x hd rv hrv;cases rvs with
    | nil=>cases hrv
    | cons _ _=>cases hd
  | cons r rs ih=>
    intro rvs us0 x hd rv hrv
    cases rvs with
    | nil=>cases hrv
    | cons rv0 rvs=>
      obtain ⟨x0,xs⟩:=x
      have hh:(∃a,e2r P σ rv0=some a) /\ ∃us',d7j P σ us' rs rvs=some xs:=by
       cases r<;>simp only [d7j] at hd<;>split at hd<;>try (cases hd;done)
       ·rename_i a ha;exact ⟨⟨a,ha⟩,_,(a1i hd).2⟩
       ·rename_i a ha
        split at hd
        ·exact ⟨⟨a,ha⟩,_,(a1i hd).2⟩
        ·cases hd
       ·rename_i a ha
        split at hd
        ·exact ⟨⟨a,ha⟩,_,(a1i hd).2⟩
        ·cases hd
       ·rename_i a ha
        split at hd
        ·exact ⟨⟨a,ha⟩,_,(a1i hd).2⟩
        ·cases hd
      rcases qO.1 hrv with e | e
      ·rw [e];exact hh.1
      ·obtain ⟨us',hd'⟩:=hh.2;exact ih rvs us' xs hd' rv e
 obtain ⟨vals,hrun,hvals⟩:=c34 (P:=P) (f:=b9q (Fr n ρ).tmps) (w:=w) (p:=fun r u=> ∀a,e2r P σ r=some a -> AVR (cx Z π σ w) a u) (l:=fn.results.toList) fun rv hrv=>by
  obtain ⟨a,ha⟩:=hsome _ _ _ _ hx rv hrv
  obtain ⟨u,hu,hau⟩:=e4y (n:=n) hU h (List.all_eq_true.1 hc rv hrv) ha
  exact ⟨u,hu,fun a' ha'=>by rw [ha] at ha';cases ha';exact hau⟩
 refine ⟨f1h vals,c3o hrun,?_⟩
 obtain ⟨fz,ow,g1,g2,g3,g4,g5,g6⟩:=c1t hU h s.rs _ _ x vals hx hvals
 have hpi: ∀(j:Nat) v,us[j]? =some v -> (0+j)∈ioI 0 s.ps -> π (0+j)=v:=fun j v hv hm=>by
  have:=(h.pin (0+j) (by have:=(c3s s.ps 0 (0+j)).1 hm;simpa using this.2)).2
  rw [this,Nat.zero_add]
  show us.getD j undef=v
  simp [hv]
 obtain ⟨o1,o2⟩:=b0w hU h s.ps 0 os us hos hlen hpi
 have hnfz: ∀b,∀id,MB (σ.mem id) (π id) b -> (∀q∈fz,q.1≠id) -> ¬(Z b \/ b1r σ π fz b):=by
  rintro b id hb hq (hz | ⟨q,hqm,hqb⟩)
  ·exact (h.own id b hb).1 hz
  ·exact h.dist q.1 id b (hq q hqm) hqb hb
 have hmk: ∀(i:Nat) t c m,s.ps[i]? =some (.im t c m) -> ∀q∈m,∃j,d7o σ (0+i) q.1=some j /\ (czO (fun b=>Z b \/ b1r σ π fz b) s.ps (b1o σ π s.ps us) w).us q.2 /\ (czO (fun b=>Z b \/ b1r σ π fz b) s.ps (b1o σ π s.ps us) w).π q.2=π j:=by
  intro i t c m hp q hq
  obtain ⟨e,c',hx⟩:=d4n s.ps 0 hmi i t c m q hp hq
  obtain ⟨j,hj⟩:=e1s s.ps 0 os hos q.2 (0+i) q.1 e c' hx
  refine ⟨j,hj,⟨_,hx,rfl⟩,?_⟩
  have h9:=d04 σ π s.ps us q.2 (0+i) q.1 j e c' hx (by rw [hlen];exact (qD.1 hx).1) hj
  show (b1o σ π s.ps us).getD q.2 undef=π j
  simp [List.getD_eq_getElem?_getD,h9]
 have o1':=o1 (czO (fun b=>Z b \/ b1r σ π fz b) s.ps (b1o σ π s.ps us) w) (fun b hb=> .inl hb) rfl hmk
 have hsame:=c28 σ π s.ps us
 have hlen':=c5m σ π s.ps us
 generalize b1o σ π s.ps us=ua at o1' o2 hsame hlen'
 have hnd2: ∀(l:List Nat),b9k l=true -> ∀(i j a:Nat),i≠j -> l[i]? =some a -> l[j]? ≠some a:=by
  intro l
  induction l with
  | nil=>intro _ i j a _ h;simp at h
  | cons q l ih=>
    intro hn i j a hne hi hj
    obtain ⟨n1,n2⟩:=a8y hn
    cases i with
    | zero=>cases j with
      | zero=>exact hne rfl
      | succ j=>simp at hi hj;rw [<- hi] at hj;exact n1 (qE hj)
    | succ i=>cases j with
      | zero=>simp at hi hj;rw [<- hj] at hi;exact n1 (qE hi)
      | succ j=>exact ih n2 i j a (by omega) (by simpa using hi) (by simpa using hj)
 have hall: ∃ids:List (Option Nat),m7 (f5x σ π) ids (b8m s.rs vals++ioB s.ps ua) /\ (∀id,some id∈ids -> ∀q∈fz,q.1≠id) /\ ∀(i j:Nat) id,i≠j -> ids[i]? =some (some id) -> ids[j]? ≠some (some id):=by
  refine ⟨ow++(ioP σ 0 s.ps).map some,a5q g3 ?_,fun id hid=> ?_,fun i j id hne hi hj=> ?_⟩
  ·have key: ∀(l:List Nat) (vs:List Value),m7 (fun id v=>v=π id /\ ∀b,hdV v=some b -> MB (σ.mem id) (π id) b) l vs -> m7 (f5x σ π) (l.map some) vs:=by
    intro l
    induction l with
    | nil=>intro vs hv;cases vs with
      | nil=>trivial
      | cons _ _=>exact hv.elim
    | cons i l ih=>intro vs hv;cases vs with
      | nil=>exact hv.elim
      | cons v vs=>exact ⟨hv.1,ih vs hv.2⟩
   exact key _ _ o2
  ·rcases qK.1 hid with h1 | h1
   ·exact (g4 id h1).2
   ·obtain ⟨i,hi,he⟩:=List.mem_map.1 h1
    cases he
    intro q hq e
    exact g2 q hq (by rw [e];exact hi)
  ·have cross: ∀(a b:Nat),ow[a]? =some (some id) -> (ioP σ 0 s.ps)[b]? =some id -> False:=by
    intro a b ha hb
    exact (g4 id (qE ha)).1 (qE hb)
   have unmap: ∀(b:Nat),((ioP σ 0 s.ps).map some)[b]? =some (some id) -> (ioP σ 0 s.ps)[b]? =some id:=by
    intro b hb
    rw [List.getElem?_map] at hb
    cases hx:(ioP σ 0 s.ps)[b]? with
    | none=>rw [hx] at hb;cases hb
    | some q=>rw [hx] at hb;simp at hb;rw [hb]
   rcases m8 hi with ⟨_,hi⟩ | ⟨hi0,hi⟩<;>rcases m8 hj with ⟨_,hj⟩ | ⟨hj0,hj⟩
   ·exact g5 i j id hne hi hj
   ·exact cross _ _ hi (unmap _ hj)
   ·exact cross _ _ hj (unmap _ hi)
   ·exact hnd2 _ hnd _ _ id (by omega) (unmap _ hi) (unmap _ hj)
 obtain ⟨ids,i1,i2,i3⟩:=hall
 refine ⟨fun b=>Z b \/ b1r σ π fz b,vals,ua,rfl,fun b hb=> .inl (h.zout b hb),fun b hb=> ?_,h.ext,hlen',hsame,g6 _ (fun b hb=> .inl hb) (fun b hb=> .inr hb),o1',fun v hv b hb=> ?_,fun i j v v' b hne hi hj hb hb'=> ?_⟩
 ·rcases hb with hb | ⟨q,hq,hb⟩
  ·rcases h.zin b hb with h1 | h1 | h1
   ·exact .inl h1
   ·exact .inr (.inl h1)
   ·exact .inr (.inr ⟨h1,h.zlt b hb⟩)
  ·obtain ⟨_,h2,h3⟩:=h.own q.1 b hb
   rcases h3 with h3 | h3
   ·exact .inr (.inl h3)
   ·exact .inr (.inr ⟨h3,h2⟩)
 ·obtain ⟨k,hk⟩:=List.getElem?_of_mem hv
  obtain ⟨o,ho,hown⟩:=i1.getR hk
  cases o with
  | none=>have hown:hdV v=none:=hown;rw [hown] at hb;cases hb
  | some id=>
    obtain ⟨e1,e2⟩:=hown
    have hMB:=e2 b hb
    obtain ⟨_,h2,h3⟩:=h.own id b hMB
    exact ⟨hnfz b id hMB (i2 id (qE ho)),h2,h3⟩
 ·obtain ⟨o,ho,hown⟩:=i1.getR hi
  obtain ⟨o',ho',hown'⟩:=i1.getR hj
  cases o with
  | none=>have hown:hdV v=none:=hown;rw [hown] at hb;cases hb
  | some id=>cases o' with
    | none=>have hown':hdV v'=none:=hown';rw [hown'] at hb';cases hb'
    | some id'=>
      have hne':id≠id':=fun e=>i3 i j id hne ho (by rw [e];exact ho')
      exact h.dist id id' b hne' (hown.2 b hb) (hown'.2 b hb')
theorem b6b (hU:UOK U) {s:Sig U} {w0:World} {G Z0:Nat -> Prop} {us:List Value} (hlen:us.length=s.ps.length) (hmi:b6e s.ps 0 s.ps=true) {Z:Nat -> Prop} {π:Nat -> Value} {σ:U.St} {ρ:Nat -> Value} {w:World} (h:Rel ⟨w0,G,Z0,b50 s.ps,c0g us⟩ Z π σ ρ w) {fn:Func} (hc:b58 n fn.results.toList=true) {r:Ress U s.rs×Outs U s.ps} (hr:d6z P s fn.results.toList σ=some r):
  ∃v,(results fn (Fr n ρ).tmps).run P w= .ok v w /\ Post s Z0 G w0 us r v w:=d9e hU hlen hmi (h.freeze (c2a fn.results.toList)) hc hr
theorem e8i (hU:UOK U) (hΦ:OKΦ P Φ) (hm:P.follows .mixedOrders=true) {f:FuncId} {fn:Func} {c:Code} {fe:Fent U} (un:Ress U fe.s.rs×Outs U fe.s.ps -> fe.B) (an:Ann U.C) (hf:P.funcs[f]? =some fn) (hb:fn.body=some c)
  (hc:(a2v fn.ntmps c&&b58 fn.ntmps fn.results.toList&&(decide (npK fe.s.ps <= fn.ntmps)&&b1c fe.s.ps))=true) (hun: ∀p,fe.wr (un p)=p) (hF: ∀x b,fe.F x=some b -> d7q P Φ fe.s un fn an x=some b):Spec P f fe:=by
 intro xs b hr Z G w us hlen hR
 simp only [qB,decide_eq_true_eq] at hc
 have hmi:b6e fe.s.ps 0 fe.s.ps=true:=by
  have h9:=hc.2.2
  unfold b1c at h9
  simp only [qB] at h9
  exact h9.1
 have hd:=hF xs b hr
 unfold d7q at hd
 rw [hb] at hd
 have hret: ∀{σ:U.St},unK un (d6z P fe.s fn.results.toList σ)=some b -> d6z P fe.s fn.results.toList σ=some (fe.wr b):=fun {σ} h=>by
  unfold unK at h
  split at h
  ·rename_i p hp
   cases h
   rw [hp,hun]
  ·cases h
 refine (Calls.of_WP (R:=fun u w'=>Post fe.s Z G w us (fe.wr b) u w') hf hb rfl (by rw [List.length_take];exact Nat.le_trans (Nat.min_le_left _ _) hc.2.1) ?_)
 refine a5d hU hΦ hm c an _ _ b hc.1.1 hd ⟨w,G,Z,b50 fe.s.ps,c0g us⟩ (fun i=> ?_) (fun _=>False) (c0g (us.take (npK fe.s.ps))) _ (fun _ h=>h.elim) ⟨fun σ Z' π ρ w' _ hR' h'=> ?_,(fun i σ Z' π ρ w' _ hR' h'=>by cases h'),fun σ Z' π ρ w' _ hR' h'=> ?_⟩ Z _ _ w (fun _ h=>h.elim) hR
 ·have:=c3s fe.s.ps 0 i
  simp only [Nat.zero_le,true_and,Nat.sub_zero] at this
  exact this.symm
 ·exact b6b hU hlen hmi hR' hc.1.2 (hret h')
 ·exact b6b hU hlen hmi hR' hc.1.2 (hret h')
end
end Go.SX
namespace Go.SX
open Go Go.PL
section
variable {U:Uni}
def c48:Obj -> Bool
 | .loop _ | .deferred _=>true
 | .mapIter _ _ seen _=> !seen.isEmpty
 | _=>false
section
variable {G:Nat -> Prop} {w:World} {l:Nat} {o o':Obj}
theorem f0a (hl:w.heap[l]? =some o) (ho:c48 o=true) {a:Addr} {v:Value} (h:w.cell? a=some v):(w.putObj l o').cell? a=some v:=by
 have hne:a.block≠l:=by
  intro e
  unfold World.cell? at h
  rw [e,hl] at h
  cases o<;>first
   | (cases h;done)
   | (cases ho;done)
 unfold World.cell? at h⊢
 rw [World.putObj_heap_other hne]
 exact h
theorem f0g (hl:w.heap[l]? =some o) (ho:c48 o=true) {a:Addr} {cs:List Value} (h:CA w a cs):CA (w.putObj l o') a cs:=fun j v hj=>f0a hl ho (h j v hj)
theorem c40 (hl:w.heap[l]? =some o) (ho:c48 o=true) {b:Nat} {q:Obj} (hq:w.heap[b]? =some q) (hn:c48 q=false):(w.putObj l o').heap[b]? =some q:=by
 have hne:b≠l:=fun e=>by rw [e,hl] at hq;cases hq;rw [ho] at hn;cases hn
 rw [World.putObj_heap_other hne];exact hq
theorem b7u {α:Type} {R:TyR α} (hl:w.heap[l]? =some o) (ho:c48 o=true) (hR: ∀cs x,R.rep G w cs x -> R.rep G (w.putObj l o') cs x) {v:Value} {xs:List α} (h:j5 R G w v xs):j5 R G (w.putObj l o') v xs:=by
 rcases h with h | ⟨a,cap,hv,hc,hm,hi⟩
 ·exact .inl h
 ·refine .inr ⟨a,cap,hv,hc,hm,fun i x hx=> ?_⟩
  obtain ⟨cs,hr,hb,hg,hca⟩:=hi i x hx
  exact ⟨cs,hR _ _ hr,by rw [World.putObj_size];exact hb,hg,f0g hl ho hca⟩
theorem c9i {R: ∀c,TyR (U.T c)} (hl:w.heap[l]? =some o) (ho:c48 o=true) (hR: ∀c cs x,(R c).rep G w cs x -> (R c).rep G (w.putObj l o') cs x) {a:U.AV} {cs:List Value} (h:a0d R G w a cs):a0d R G (w.putObj l o') a cs:=by
 cases a<;>simp only [a0d] at* <;>first
  | exact h
  | exact hR _ _ _ h
  | (obtain ⟨v,hv,hr⟩:=h;exact ⟨v,hv,b7u hl ho (hR _) hr⟩)
theorem c3t {R: ∀c,TyR (U.T c)} (hl:w.heap[l]? =some o) (ho:c48 o=true) (hR: ∀c cs x,(R c).rep G w cs x -> (R c).rep G (w.putObj l o') cs x) {a:U.AV} {cs:List Value} (h:d7 R G w a cs):d7 R G (w.putObj l o') a cs:=by
 cases a<;>simp only [d7] at* <;>first
  | exact h
  | exact hR _ _ _ h
  | (obtain ⟨v,hv,hr⟩:=h;exact ⟨v,hv,b7u hl ho (hR _) hr⟩)
  | (obtain ⟨ad,cs',hc,hb,hg,hca,hr⟩:=h;exact ⟨ad,cs',hc,by rw [World.putObj_size];exact hb,hg,f0g hl ho hca,c9i hl ho hR hr⟩)
theorem f5m (hl:w.heap[l]? =some o) (ho:c48 o=true): ∀(d:Nat) (c:U.C) (cs:List Value) (x:U.T c),(Rd d c).rep G w cs x -> (Rd d c).rep G (w.putObj l o') cs x
 | 0,c,cs,x,h=>h.elim
 | d+1,c,cs,x,h=>by
   obtain ⟨h1,css,h2,h3⟩:=h
   exact ⟨h1,css,h2,h3.mono fun _ _ hh=>c3t hl ho (f5m hl ho d) hh⟩
theorem d72 (hl:w.heap[l]? =some o) (ho:c48 o=true) (c:U.C) (cs:List Value) (x:U.T c):(Rp c).rep G w cs x -> (Rp c).rep G (w.putObj l o') cs x:=fun ⟨d,h⟩=>⟨d,f5m hl ho d c cs x h⟩
end
section
variable {X:Cx} {l:Nat} {o o':Obj}
def Cx.pu (X:Cx) (l:Nat) (o':Obj):Cx:=⟨X.Z,X.π,X.us,X.w.putObj l o'⟩
theorem d9t (hl:X.w.heap[l]? =some o) (ho:c48 o=true) {a:U.AV} {v:Value} (ha:b37 X a v):b37 (X.pu l o') a v:=by
 cases a<;>simp only [b37] at* <;>first
  | exact ha
  | (obtain ⟨cs,hv,hr⟩:=ha;exact ⟨cs,hv,d72 hl ho _ _ _ hr⟩)
  | exact b7u hl ho (d72 hl ho _) ha
  | (obtain ⟨ad,cs,hv,hb,hg,hc,hr⟩:=ha
     exact ⟨ad,cs,hv,by show ad.block<(X.w.putObj l o').heap.size;rw [World.putObj_size];exact hb,hg,f0g hl ho hc,c3t hl ho (d72 hl ho) hr⟩)
  | (obtain ⟨b,mb,s,c,hv,⟨h1,h2⟩,⟨h3,h4⟩,h5,h6⟩:=ha
     exact ⟨b,mb,s,c,hv,⟨by show b<(X.w.putObj l o').heap.size;rw [World.putObj_size];exact h1,h2⟩,⟨by show mb<(X.w.putObj l o').heap.size;rw [World.putObj_size];exact h3,h4⟩,c40 hl ho h5 rfl,c40 hl ho h6 rfl⟩)
theorem c6w (hl:X.w.heap[l]? =some o) (ho:c48 o=true) {a:U.AV} {v:Value} (ha:a18 X a v):a18 (X.pu l o') a v:=by
 cases a
 case st c as=>
  obtain ⟨css,hv,h1,h2,hr⟩:=ha
  exact ⟨css,hv,h1,h2,hr.mono fun _ _ ⟨u,hu,hh⟩=>⟨u,hu,d9t hl ho hh⟩⟩
 all_goals
  simp only [a18] at ha⊢
  exact d9t hl ho ha
theorem e9i {w:World} {b:Nat} {t:TypeId} {cs:List Value} (hl:w.heap[l]? =some o) (ho:c48 o=true) (h:Mb w b t cs):Mb (w.putObj l o') b t cs:=c40 hl ho h rfl
theorem e66 (hl:X.w.heap[l]? =some o) (ho:c48 o=true) {a:U.AV} {v:Value} (ha:AVR X a v):AVR (X.pu l o') a v:=by
 cases a<;>simp only [AVR] at* <;>first
  | exact c6w hl ho ha
  | (obtain ⟨vs,hv,hr⟩:=ha;exact ⟨vs,hv,hr.mono fun _ _ hh=>c6w hl ho hh⟩)
  | (obtain ⟨u,hv,hr⟩:=ha;exact ⟨u,hv,c6w hl ho hr⟩)
  | (obtain ⟨bb,mb,hv,⟨h1,h2⟩,⟨h3,h4⟩,h5,h6,h7⟩:=ha
     exact ⟨bb,mb,hv,⟨by show bb<(X.w.putObj l o').heap.size;rw [World.putObj_size];exact h1,h2⟩,⟨by show mb<(X.w.putObj l o').heap.size;rw [World.putObj_size];exact h3,h4⟩,e9i hl ho h5,h6,c40 hl ho h7 rfl⟩)
  | (obtain ⟨bb,sv,hv,⟨h1,h2⟩,h5,h6⟩:=ha
     exact ⟨bb,sv,hv,⟨by show bb<(X.w.putObj l o').heap.size;rw [World.putObj_size];exact h1,h2⟩,e9i hl ho h5,b7u hl ho (d72 hl ho _) h6⟩)
theorem f6y (hl:X.w.heap[l]? =some o) (ho:c48 o=true) {m:U.MC} {v:Value} (hm:MR X m v):MR (X.pu l o') m v:=by
 cases m<;>simp only [MR] at*
 case box t a=>
  obtain ⟨b,u,hv,hM,ha⟩:=hm
  exact ⟨b,u,hv,e9i hl ho hM,c6w hl ho ha⟩
 case sl e c q=>
  obtain ⟨css,hO,hr⟩:=hm
  refine ⟨css,?_,hr.mono fun _ _ hh=>d72 hl ho _ _ _ hh⟩
  rcases hO with hO | ⟨g,off,cap,cur,hv,hg,hh,r⟩
  ·exact .inl hO
  ·exact .inr ⟨g,off,cap,cur,hv,hg,c40 hl ho hh rfl,r⟩
 case fz c q=>exact b7u hl ho (d72 hl ho _) hm
 case it s p=>
  obtain ⟨b,hv,h0,hh⟩:=hm
  exact ⟨b,hv,h0,c40 hl ho hh rfl⟩
 case mp q=>
  obtain ⟨b,hv,h0,hh⟩:=hm
  exact ⟨b,hv,h0,c40 hl ho hh rfl⟩
end
section
variable {E:Env} {Z:Nat -> Prop} {π:Nat -> Value} {σ:U.St} {ρ:Nat -> Value} {w:World}
theorem Rel.pu (hU:UOK U) (h:Rel E Z π σ ρ w) {l:Nat} {o o':Obj} (hB:E.w0.heap.size <= l) (hl:w.heap[l]? =some o) (ho:c48 o=true):Rel E Z π σ ρ (w.putObj l o'):=
 ⟨fun t=>e66 (X:=cx Z π σ w) hl ho (h.slot t),fun id=>f6y (X:=cx Z π σ w) hl ho (h.mem id),fun id b hb=>by
   obtain ⟨h1,h2,h3⟩:=h.own id b hb
   exact ⟨h1,by rw [World.putObj_size];exact h2,h3⟩,h.dist,fun b hb=>by rw [World.putObj_size];exact h.zlt b hb,h.zin,h.zout,
  ⟨h.ext.os,h.ext.tape,h.ext.output,by rw [World.putObj_size];exact h.ext.size,fun b hb hg=>(World.putObj_heap_other (by omega)).trans (h.ext.block b hb hg)⟩,h.pin,h.tab⟩
theorem Rel.al (h:Rel E Z π σ ρ w) (o:Obj):Rel E Z π σ ρ (w.alloc o):=h.val (d:=none) (a:= .unk) (v:=undef) (Ext.alloc noG w o) trivial
end
end
end Go.SX
namespace Go.SX
open Go Go.PL Go.RowKit
theorem d4j {r:Option Nat} {m m':Nat} {P:Program} {c:Code} {Q:Exit -> Act -> World -> Prop} {a:Act} {w:World} (h:c.wpIn (FR r) m P Q a w):c.wpIn (FR r) m' P Q a w:=
 fun b k cs hro hb _=>h b k cs hro hb fun d hd=>by cases hd
structure StillQ (B:Nat) (I:World -> Prop):Prop where
 al: ∀W o,I W -> I (W.alloc o)
 pu: ∀W l o o',B <= l -> W.heap[l]? =some o -> c48 o=true -> I W -> I (W.putObj l o')
structure KeepsQ (B:Nat) (W W':World):Prop where
 size:W.heap.size <= W'.heap.size
 same: ∀(k:Nat) (o:Obj),B <= k -> W.heap[k]? =some o -> c48 o=true -> W'.heap[k]? =some o
def b55 (B:Nat) (W W':World):Prop:= ∀(k:Nat) (m:Option Nat) (s:Nat) (q:Array Nat) (c:Nat),B <= k -> W.heap[k]? =some (.mapIter m s q c) -> q.isEmpty=false -> W'.heap[k]? =some (.mapIter m s q c)
theorem KeepsQ.m {B:Nat} {W W':World} (h:KeepsQ B W W'):b55 B W W':=fun k m s q c hk hw hq=>h.same k _ hk hw (by simp [c48,hq])
theorem b55.trans {B:Nat} {W W1 W2:World} (h:b55 B W W1) (h2:b55 B W1 W2):b55 B W W2:=fun k m s q c hk hw hq=>h2 k m s q c hk (h k m s q c hk hw hq) hq
theorem b55.put {B l:Nat} {W:World} {r:Loop} {o:Obj} (hl:W.heap[l]? =some (.loop r)):b55 B W (W.putObj l o):=fun k m s q c hk hw hq=>by
 have hne:k≠l:=fun e=>by rw [e,hl] at hw;cases hw
 rw [World.putObj_heap_other hne];exact hw
def f2h (B:Nat) (I':World -> Prop) (Ix:Code -> World -> Prop) (W:World):Exit -> Act -> World -> Prop
 | .normal,_,W'=>KeepsQ B W W' /\ I' W'
 | .ret,_,W'=>KeepsQ B W W' /\ Ix .ret W'
 | .exit id,_,W'=>KeepsQ B W W' /\ Ix (.exit id) W'
 | _,_,_=>False
theorem d3z {W:World} {l:Nat} {r:Loop} (h:W.heap[l]? =some (.loop r)):l<W.heap.size:=(qN.1 h).1
theorem e5w {P:Program} {g:Operand} {ps:Array Tmp} {assign body:Code} {Q:Exit -> Act -> World -> Prop} {a:Act} {w:World}
  {gf:Nat} {lb:Array Value} (hg:a.eval g= .func (.func gf) #[] lb) (eg: ∀args w,(callFunc gf args).run P w= .ok (.enter gf args) w)
  (enc:Nat -> Array Value) (len:Nat) (hps: ∀k,(enc k).size=ps.size)
  (I:Nat -> World -> Prop) (Ix:Nat -> Code -> World -> Prop) (Ax:Nat -> Act -> World -> Prop)
  (hit: ∀(l:Nat) (J Jx:Nat -> World -> Prop) (W:World),Below w.heap.size w W -> (∀k W1,J k W1 -> I k W1) -> (∀k W1 o,J k W1 -> J k (W1.alloc o)) ->
   (∀k W1,J k W1 -> k<len -> YieldAt (FR none) 7 P l (enc k) W1 fun e W'=>(e= .returned (.bool true) /\ J (k+1) W' /\ b55 w.heap.size W1 W') \/ (e= .returned (.bool false) /\ Jx (k+1) W')) ->
   J 0 W -> CallsIn (FR none) 8 P gf (#[.func (.yield l) #[] #[]]++lb) W fun e W'=>(∃v,e= .returned v) /\ (J len W' \/ ∃k,k <= len /\ Jx k W'))
  (cI: ∀k,StillQ w.heap.size (I k)) (cX: ∀k c,StillQ w.heap.size (Ix k c)) (cA: ∀k a',StillQ w.heap.size (Ax k a')) (h0:I 0 w)
  (hass: ∀(l k:Nat) (W:World),I k W -> k<len ->
   assign.wpIn (FR (some l)) 7 P (Exit.then (fun a' W'=>KeepsQ w.heap.size W W' /\ Ax k a' W') (fun _ _ _=>False)) {tmps:=(ps.zip (enc k)).foldl (fun t (p,v)=>t.setIfInBounds p v) a.tmps,defers:=[]} W)
  (hbody: ∀(l k:Nat) (a':Act) (W:World),Ax k a' W -> k<len -> body.wpIn (FR (some l)) 7 P (f2h w.heap.size (I (k+1)) (Ix (k+1)) W) a' W)
  (hdone: ∀(D:Nat) (W:World),w.heap.size <= D -> I len W -> W.heap[D]? =some (.deferred (some [])) -> Q .normal {a with defers:={target:= .collected D,args:= #[]}::a.defers} W)
  (hstop: ∀(D k:Nat) (c:Code) (W:World),w.heap.size <= D -> k <= len -> Ix k c W -> W.heap[D]? =some (.deferred (some [])) -> c.wpIn (FR none) 9 P Q {a with defers:={target:= .collected D,args:= #[]}::a.defers} W):
  (Code.rangeFunc g ps assign body).wpIn (FR none) 9 P Q a w:=by
 have b1:Below w.heap.size w (w.alloc (.deferred (some []))):=(Below.refl _ w).alloc (Nat.le_refl _) _
 refine wpIn_rangeFunc fun fn hfn=> ?_
 let R:LoopState -> Option Code -> Loop:=fun s j=>{state:=s,pending:=j,fn,tmps:=a.tmps,params:=ps,assign,body,defers:=w.heap.size}
 let V:=(w.alloc (.deferred (some []))).alloc (.loop (R .ready none))
 have vD:V.heap[w.heap.size]? =some (.deferred (some [])):=(Below.heap_alloc _ _ _ (by simp)).trans (World.alloc_heap_new w _)
 have vL:V.heap[w.heap.size+1]? =some (.loop (R .ready none)):=by
  have:=World.alloc_heap_new (w.alloc (.deferred (some []))) (.loop (R .ready none));rwa [World.size_alloc] at this
 have vI:I 0 V:=(cI 0).al _ _ ((cI 0).al _ _ h0)
 have vB:Below w.heap.size w V:=b1.alloc (by simp) _
 have henter:(Instr.enterLoop fn a.tmps ps assign body (FR none).round).run P w= .ok (w.heap.size+1,[{target:= .collected w.heap.size,args:= #[]}]) V:=run_enterLoop_outer _ _ _ _ _
 have hres:(resolve a.eval (rangeCall g (w.heap.size+1)) 0).run P V= .ok {target:= .fn (.func gf) lb,args:= #[.func (.yield (w.heap.size+1)) #[] #[]]} V:=by
  simp only [resolve,hg]
  simp [go_sem]
 refine ⟨_,_,V,_,V,gf,#[.func (.yield (w.heap.size+1)) #[] #[]]++lb,V,henter,hres,?_,?_,fun _=>by decide,?_⟩
 ·intro f' hf';trivial
 ·simp [invoke,go_sem,eg]
 let Bk (s:LoopState) (j:Option Code) (W:World):Prop:=W.heap[w.heap.size+1]? =some (.loop (R s j)) /\ W.heap[w.heap.size]? =some (.deferred (some []))
 have kd: ∀{s j W} (s':LoopState) (j':Option Code),Bk s j W -> Bk s' j' (W.putObj (w.heap.size+1) (.loop (R s' j'))):=fun _ _ h=>
  ⟨World.putObj_heap_same (d3z h.1),(World.putObj_heap_other (by omega)).trans h.2⟩
 have kf: ∀{s j W W'},KeepsQ w.heap.size W W' -> Bk s j W -> Bk s j W':=fun hk h=>⟨hk.same _ _ (by omega) h.1 rfl,hk.same _ _ (Nat.le_refl _) h.2 rfl⟩
 refine (hit (w.heap.size+1) (fun k W=>I k W /\ Bk .ready none W) (fun k W=> ∃c,Ix k c W /\ Bk .done (some c) W) V vB (fun k W1 h=>h.1) (fun k W1 o h=>⟨(cI k).al _ _ h.1,(Below.heap_alloc _ _ _ (d3z h.2.1)).trans h.2.1,(Below.heap_alloc _ _ _ (qN.1 h.2.2).1).trans h.2.2⟩) ?_ ⟨vI,vL,vD⟩).mono ?_
 ·intro k W ⟨hi,hb⟩ hk
  refine ⟨fn,_,assign,body,run_yield (P:=P) (args:=enc k) hb.1 (hps k),roundIn_of_wpIn (F:=FR none) hfn (wpIn_mono (hass _ k W hi hk) fun e a' W' hp=> ?_)⟩
  cases e<;>first | exact hp.elim | skip
  obtain ⟨hkf,ha'⟩:=hp
  have hb':=kf hkf hb
  refine ⟨_,run_beginRound hb'.1 rfl,?_⟩
  have hb2:Bk .busy none (W'.putObj (w.heap.size+1) (.loop (R .busy none))):=kd _ _ hb'
  refine wpIn_mono (hbody _ k a' _ ((cA k a').pu _ _ _ _ (by omega) hb'.1 rfl ha') hk) fun e a3 W3 hp=> ?_
  have fin: ∀(j:Option Code),KeepsQ w.heap.size (W'.putObj (w.heap.size+1) (.loop (R .busy none))) W3 ->
    (Instr.endRound (w.heap.size+1) j).run P W3= .ok (.bool j.isNone) (W3.putObj (w.heap.size+1) (.loop (R (if j.isNone then .ready else .done) j))) /\ Bk .busy none W3:=fun j hk3=>⟨run_endRound (P:=P) j (kf hk3 hb2).1,kf hk3 hb2⟩
  have out: ∀(c:Code),KeepsQ w.heap.size (W'.putObj (w.heap.size+1) (.loop (R .busy none))) W3 -> Ix (k+1) c W3 ->
    ∃v W4,(Instr.endRound (w.heap.size+1) (some c)).run P W3= .ok v W4 /\ ((Ending.returned v= .returned (.bool true) /\ (I (k+1) W4 /\ Bk .ready none W4) /\ b55 w.heap.size W W4) \/ (Ending.returned v= .returned (.bool false) /\ ∃c,Ix (k+1) c W4 /\ Bk .done (some c) W4)):=fun c hk3 hx=>by
   obtain ⟨hr,hb3⟩:=fin (some c) hk3
   exact ⟨_,_,hr,.inr ⟨rfl,c,(cX _ c).pu _ _ _ _ (by omega) hb3.1 rfl hx,kd _ _ hb3⟩⟩
  cases e with
  | normal=>
    obtain ⟨hk3,hi3⟩:=hp
    obtain ⟨hr,hb3⟩:=fin none hk3
    exact ⟨_,_,hr,.inl ⟨rfl,⟨(cI _).pu _ _ _ _ (by omega) hb3.1 rfl hi3,kd _ _ hb3⟩,((hkf.m.trans (b55.put hb'.1)).trans hk3.m).trans (b55.put hb3.1)⟩⟩
  | ret=>exact out .ret hp.1 hp.2
  | exit id=>exact out (.exit id) hp.1 hp.2
  | goto t=>exact hp.elim
  | panic ch=>exact hp.elim
  | outgrown=>exact hp.elim
 ·rintro e W2 ⟨⟨v,rfl⟩,⟨hi,hb⟩ | ⟨k,hk,c,hi,hb⟩⟩
  ·exact ⟨none,_,run_endLoop (P:=P) hb.1 (by simp [R]),hdone _ _ (Nat.le_refl _) ((cI _).pu _ _ _ _ (by omega) hb.1 rfl hi) ((World.putObj_heap_other (by omega)).trans hb.2)⟩
  ·exact ⟨some c,_,run_endLoop (P:=P) hb.1 (by simp [R]),hstop _ k c _ (Nat.le_refl _) hk ((cX _ c).pu _ _ _ _ (by omega) hb.1 rfl hi) ((World.putObj_heap_other (by omega)).trans hb.2)⟩
end Go.SX
namespace Go.SX
open Go Go.PL Go.RowKit
def bw0 (tS tE tI tB tY:TypeId):List Oper:=[{dst:=some 4,op:=Op.load tS (Operand.tmp 1),type:=tS,pos:= "iter.go:28",after:= #[],guard:=none},{dst:=some 5,op:=Op.call {callee:=Callee.builtin Builtin.len,args:= #[Operand.tmp 4],argTypes:= #[tS]},type:=tI,pos:= "iter.go:28",after:= #[{on:=0,ground:=Ground.data}],guard:=none},{dst:=some 6,op:=Op.binOp BinOp.sub tI (Operand.tmp 5) (Operand.const (Value.int IntKind.i64 1)) tI,type:=tI,pos:= "iter.go:28",after:= #[{on:=1,ground:=Ground.data}],guard:=none},{dst:=some 3,op:=Op.assign (Operand.tmp 6),type:=tI,pos:= "iter.go:28",after:= #[{on:=2,ground:=Ground.data},{on:=0,ground:=Ground.phase},{on:=1,ground:=Ground.phase},{on:=2,ground:=Ground.phase}],guard:=none}]
def bw1 (tS tE tI tB tY:TypeId):List Oper:=[{dst:=some 7,op:=Op.move (Operand.tmp 3),type:=tI,pos:= "iter.go:28",after:= #[],guard:=none},{dst:=some 8,op:=Op.binOp BinOp.geq tI (Operand.tmp 7) (Operand.const (Value.int IntKind.i64 0)) tI,type:=tB,pos:= "iter.go:28",after:= #[{on:=0,ground:=Ground.data}],guard:=none}]
def bw2 (tS tE tI tB tY:TypeId):List Oper:=[{dst:=some 9,op:=Op.move (Operand.tmp 3),type:=tI,pos:= "iter.go:28",after:= #[],guard:=none},{dst:=some 10,op:=Op.binOp BinOp.sub tI (Operand.tmp 9) (Operand.const (Value.int IntKind.i64 1)) tI,type:=tI,pos:= "iter.go:28",after:= #[{on:=0,ground:=Ground.data}],guard:=none},{dst:=some 3,op:=Op.assign (Operand.tmp 10),type:=tI,pos:= "iter.go:28",after:= #[{on:=1,ground:=Ground.data},{on:=0,ground:=Ground.phase},{on:=1,ground:=Ground.phase}],guard:=none}]
def bw3 (tS tE tI tB tY:TypeId):List Oper:=[{dst:=some 11,op:=Op.move (Operand.tmp 0),type:=tY,pos:= "iter.go:29",after:= #[],guard:=none},{dst:=some 12,op:=Op.move (Operand.tmp 3),type:=tI,pos:= "iter.go:29",after:= #[],guard:=none},{dst:=some 13,op:=Op.load tS (Operand.tmp 1),type:=tS,pos:= "iter.go:29",after:= #[],guard:=none},{dst:=some 14,op:=Op.move (Operand.tmp 3),type:=tI,pos:= "iter.go:29",after:= #[],guard:=none},{dst:=some 15,op:=Op.indexAddr tS (Operand.tmp 13) (Operand.tmp 14),type:=0,pos:= "iter.go:29",after:= #[{on:=2,ground:=Ground.data},{on:=3,ground:=Ground.data}],guard:=none},{dst:=some 16,op:=Op.load tE (Operand.tmp 15),type:=tE,pos:= "iter.go:29",after:= #[{on:=4,ground:=Ground.data}],guard:=none},{dst:=some 17,op:=Op.call {callee:=Callee.value (Operand.tmp 11),args:= #[Operand.tmp 12,Operand.tmp 16],argTypes:= #[tI,tE]},type:=tB,pos:= "iter.go:29",after:= #[{on:=0,ground:=Ground.data},{on:=1,ground:=Ground.data},{on:=5,ground:=Ground.data}],guard:=none},{dst:=some 18,op:=Op.unOp UnOp.not tB (Operand.tmp 17),type:=tB,pos:= "iter.go:29",after:= #[{on:=6,ground:=Ground.data}],guard:=none}]
def e7f (tS tE tI tB tY:TypeId):Code:=(Code.seq (Code.region 0 (bw0 tS tE tI tB tY).toArray false) (Code.block 0 (Code.loop (Code.seq (Code.seq (Code.region 1 (bw1 tS tE tI tB tY).toArray false) (Code.cond (Operand.tmp 8) Code.skip (Code.exit 0))) (Code.seq (Code.block 1 (Code.seq (Code.region 3 (bw3 tS tE tI tB tY).toArray false) (Code.cond (Operand.tmp 18) Code.ret Code.skip))) (Code.region 2 (bw2 tS tE tI tB tY).toArray false))))))
theorem d1v {n:Int} (h0: -9223372036854775808 <= n) (h1:n <= 9223372036854775807):IntKind.i64.wrap n=n:=by
 rw [IntKind.wrap_i64];omega
theorem a0z {P:Program} {n m:Nat} {r:Option Nat} {ops:List Oper} (hT:Plan.okTmps ops n=true) (hS:Plan.okSel ops=true) {Q:Exit -> Act -> World -> Prop} {ρ:Nat -> Value} {ds:List Deferred} {w:World} {i:Nat} {rest:List Nat} {o:Oper} {v:Value}
  (ho:ops[i]? =some o) (hg:o.guard=none) (hy:YV P (ev ρ) w o v) (hk:wpOpsIn (FR r) m P ops.toArray Q rest (Frd n (a9j ρ o.dst v) ds) w):wpOpsIn (FR r) m P ops.toArray Q (i::rest) (Frd n ρ ds) w:=by
 rw [wpOpsIn_cons]
 unfold wpOpIn
 simp only [List.getElem?_toArray,ho]
 rw [if_pos (by simp [Region.wanted,hg])]
 refine y9.wp (K:=fun u w'=>u=v /\ w'=w) ?_ ?_
 ·unfold y9
  rw [b5f hT hS ho ρ,show (execOp (ev ρ) o).run P w= .ok (.value v) w from hy]
  exact ⟨rfl,rfl⟩
 ·rintro u w' ⟨rfl,rfl⟩
  rw [c04]
  exact hk
theorem d08 {P:Program} {n m:Nat} {r:Option Nat} {ops:List Oper} (hT:Plan.okTmps ops n=true) (hS:Plan.okSel ops=true) {Q:Exit -> Act -> World -> Prop} {ρ:Nat -> Value} {ds:List Deferred} {w:World} {i:Nat} {rest:List Nat} {o:Oper}
  (ho:ops[i]? =some o) (hg:o.guard=none) (hd: ∀c,o.op≠ .defer c) {l:Nat} {f:FuncId} {tmps:Array Value} {assign body:Code} (hy:(execOp (ev ρ) o).run P w= .ok (.round l f tmps assign body) w) {R:Ending -> World -> Prop} (hR:RoundIn (FR r) (m-1) P l f tmps assign body w R)
  (hk: ∀e w',R e w' -> ∃v,e= .returned v /\ wpOpsIn (FR r) m P ops.toArray Q rest (Frd n (a9j ρ o.dst v) ds) w'):wpOpsIn (FR r) m P ops.toArray Q (i::rest) (Frd n ρ ds) w:=by
 rw [wpOpsIn_cons]
 unfold wpOpIn
 simp only [List.getElem?_toArray,ho]
 rw [if_pos (by simp [Region.wanted,hg])]
 refine ⟨fun _ _=>trivial,?_⟩
 rw [Oper.semAt_eq _ _ _ hd,b5f hT hS ho ρ,hy]
 simp only [Oper.uponIn]
 refine ⟨fun hh=>Bool.noConfusion (show false=true from hh),hR.mono ?_⟩
 intro e w' he
 obtain ⟨v,rfl,h⟩:=hk e w' he
 show wpOpsIn (FR r) m P ops.toArray Q rest ((Frd n ρ ds).put o.dst v) w'
 rw [c04]
 exact h
theorem c3k {n:Nat} (args:List Value) (h:args.length <= n):({tmps:=args.toArray++Array.replicate (n-args.toArray.size) undef,defers:=[]}:Act)=Frd n (fun t=>args.getD t undef) []:=by
 unfold Frd
 congr 1
 apply Array.ext
 ·simp;omega
 ·intro i h1 h2
  rcases Nat.lt_or_ge i args.length with h3 | h3
  ·simp [h3]
  ·simp [h3,Nat.not_lt.2 h3]
theorem f3t {P:Program} {f:FuncId} {fn:Func} {tS tE tI tB tY:TypeId} {n:Nat} (hf:P.funcs[f]? =some fn) (hb:fn.body=some (e7f tS tE tI tB tY)) (hn:fn.ntmps=19) (hres:fn.results= #[]) (hS:P.underlying tS=some (.slice tE)) (hE:(P.info? tE).map (·.size)=some n)
  {l Bs len cap:Nat} {av:Option Addr} (hlen:len <= 9223372036854775807) (hcap:len <= cap) {vs:Nat -> Value} (J Jx:Nat -> World -> Prop)
  (hJ: ∀k W1,J k W1 -> (Instr.loadAt tS (.pointer (some ⟨Bs,0,none⟩))).run P W1= .ok (.slice av len cap) W1 /\ ∀j,j<len -> ∃ad,av=some ad /\ (Instr.loadAt tE (.pointer (some (ad.add (j*n))))).run P W1= .ok (vs j) W1)
  (hY: ∀k W1,J k W1 -> k<len -> YieldAt (FR none) 7 P l #[.int .i64 ((len-1-k:Nat):Int),vs (len-1-k)] W1 fun e W'=>(e= .returned (.bool true) /\ J (k+1) W') \/ (e= .returned (.bool false) /\ Jx (k+1) W'))
  (W:World) (h0:J 0 W):CallsIn (FR none) 8 P f #[.func (.yield l) #[] #[],.pointer (some ⟨Bs,0,none⟩)] W fun e W'=>(∃v,e= .returned v) /\ (J len W' \/ ∃k,k <= len /\ Jx k W'):=by
 refine callsIn_of_wp hf hb trivial ?_ rfl
 have ha:=c3k (n:=19) [Value.func (.yield l) #[] #[],.pointer (some ⟨Bs,0,none⟩)] (by simp)
 rw [show ({tmps:= #[Value.func (.yield l) #[] #[],.pointer (some ⟨Bs,0,none⟩)]++Array.replicate (fn.ntmps-(#[Value.func (.yield l) #[] #[],.pointer (some ⟨Bs,0,none⟩)]:Array Value).size) undef,defers:=[]}:Act)=Frd 19 (fun t=>[Value.func (.yield l) #[] #[],.pointer (some ⟨Bs,0,none⟩)].getD t undef) [] from by rw [hn];exact ha]
 have fin: ∀(ρ:Nat -> Value) (W':World),(J len W' \/ ∃k,k <= len /\ Jx k W') -> ∃v,(results fn (Frd 19 ρ []).tmps).run P W'= .ok v W' /\ (∃v',Ending.returned v= .returned v') /\ (J len W' \/ ∃k,k <= len /\ Jx k W'):=fun ρ W' h=>⟨_,by simp [results,hres];rfl,⟨_,rfl⟩,h⟩
 obtain ⟨hl0,_⟩:=hJ 0 W h0
 refine wpIn_seq (wpIn_region ?_)
 show wpOpsIn (FR none) 8 P (bw0 tS tE tI tB tY).toArray _ [0,1,2,3] _ _
 refine a0z rfl rfl rfl rfl (c5g rfl hl0) ?_
 refine a0z rfl rfl rfl rfl (e59 (v:= .slice av len cap) rfl (u:= .int .i64 len) (by simp [Builtin.len_,run_underlying hS];rfl)) ?_
 refine a0z rfl rfl rfl rfl (f1c (k:= .i64) (a:=len) (b:=1) (c:=(len:Int)-1) rfl rfl (d1v (by omega) (by omega))) ?_
 refine a0z rfl rfl rfl rfl (b3q rfl) ?_
 refine wpIn_block (wpIn_loop_rounds (len+1) ?_)
 have key: ∀(r k:Nat) (ρ:Nat -> Value) (W1:World),k+r=len -> ρ 0= .func (.yield l) #[] #[] -> ρ 1= .pointer (some ⟨Bs,0,none⟩) -> ρ 3= .int .i64 ((r:Int)-1) -> J k W1 ->
   Code.roundsIn (FR none) 8 P (Code.seq (Code.seq (Code.region 1 (bw1 tS tE tI tB tY).toArray false) (Code.cond (Operand.tmp 8) Code.skip (Code.exit 0))) (Code.seq (Code.block 1 (Code.seq (Code.region 3 (bw3 tS tE tI tB tY).toArray false) (Code.cond (Operand.tmp 18) Code.ret Code.skip))) (Code.region 2 (bw2 tS tE tI tB tY).toArray false)))
    (Exit.inBlock 0 (bodyPost P fn fun e W'=>(∃v,e= .returned v) /\ (J len W' \/ ∃k,k <= len /\ Jx k W'))) (r+1) (Frd 19 ρ []) W1:=by
  intro r
  induction r with
  | zero=>
    intro k ρ W1 hk r0 r1 r3 hj
    obtain rfl:k=len:=by omega
    rw [roundsIn_succ]
    refine wpIn_seq (wpIn_seq (wpIn_region ?_))
    show wpOpsIn (FR none) 8 P (bw1 tS tE tI tB tY).toArray _ [0,1] _ _
    refine a0z rfl rfl rfl rfl (b4w (v:= .int .i64 (-1)) (by rw [show ev ρ (.tmp 3)=ρ 3 from rfl,r3];rfl)) ?_
    refine a0z rfl rfl rfl rfl (e9e (k:= .i64) (a:= -1) (b:=0) (q:=false) rfl rfl rfl) ?_
    exact wpIn_cond_false (by rw [b0s rfl];rfl) (wpIn_exit (by simp only [Exit.then,Exit.inBlock,if_true];exact ⟨rfl,fin _ _ (.inl hj)⟩))
  | succ r ih=>
    intro k ρ W1 hk r0 r1 r3 hj
    obtain ⟨hl,hel⟩:=hJ k W1 hj
    obtain ⟨ad,rfl,hld⟩:=hel r (by omega)
    rw [roundsIn_succ]
    refine wpIn_seq (wpIn_seq (wpIn_region ?_))
    show wpOpsIn (FR none) 8 P (bw1 tS tE tI tB tY).toArray _ [0,1] _ _
    refine a0z rfl rfl rfl rfl (b4w (v:= .int .i64 (r:Int)) (by rw [show ev ρ (.tmp 3)=ρ 3 from rfl,r3];congr 1;omega)) ?_
    refine a0z rfl rfl rfl rfl (e9e (k:= .i64) (a:=r) (b:=0) (q:=true) rfl rfl (by simp)) ?_
    refine wpIn_cond_true (by rw [b0s rfl];rfl) (wpIn_skip ?_)
    refine wpIn_seq (wpIn_block (wpIn_seq (wpIn_region ?_)))
    show wpOpsIn (FR none) 8 P (bw3 tS tE tI tB tY).toArray _ [0,1,2,3,4,5,6,7] _ _
    have e3:ρ 3= .int .i64 (r:Int):=by rw [r3];congr 1;omega
    refine a0z rfl rfl rfl rfl (b4w (v:= .func (.yield l) #[] #[]) r0) ?_
    refine a0z rfl rfl rfl rfl (b4w (v:= .int .i64 (r:Int)) e3) ?_
    refine a0z rfl rfl rfl rfl (c5g (v:= .pointer (some ⟨Bs,0,none⟩)) r1 hl) ?_
    refine a0z rfl rfl rfl rfl (b4w (v:= .int .i64 (r:Int)) e3) ?_
    refine a0z rfl rfl rfl rfl (a7h (v:= .slice (some ad) len cap) (vi:= .int .i64 (r:Int)) rfl rfl (u:= .pointer (some (ad.add (r*n)))) (by have:=b85 (P:=P) (w:=W1) (a:=ad) (n:=len) (c:=cap) (i:=(r:Int)) hS hE ⟨by omega,by omega⟩;rwa [Int.toNat_natCast] at this)) ?_
    refine a0z rfl rfl rfl rfl (c5g rfl hld) ?_
    obtain ⟨f',tmps,assign,body,hy,hR⟩:=hY k W1 hj (by omega)
    rw [show len-1-k=r from by omega] at hy
    refine d08 rfl rfl rfl rfl (fun _ h=>by cases h) (l:=l) (f:=f') (tmps:=tmps) (assign:=assign) (body:=body) (by simpa [execOp,resolve,ev,a9j,upd,Deferred.ofValue,invoke] using hy) hR ?_
    rintro e W2 (⟨rfl,hj2⟩ | ⟨rfl,hx2⟩)
    ·refine ⟨_,rfl,?_⟩
     refine a0z rfl rfl rfl rfl (e2e (p:=true) (q:=false) rfl rfl) ?_
     refine wpIn_cond_false (by rw [b0s rfl];rfl) (wpIn_skip ?_)
     refine wpIn_region ?_
     show wpOpsIn (FR none) 8 P (bw2 tS tE tI tB tY).toArray _ [0,1,2] _ _
     refine a0z rfl rfl rfl rfl (b4w (v:= .int .i64 (r:Int)) e3) ?_
     refine a0z rfl rfl rfl rfl (f1c (k:= .i64) (a:=r) (b:=1) (c:=(r:Int)-1) rfl rfl (d1v (by omega) (by omega))) ?_
     refine a0z rfl rfl rfl rfl (b3q rfl) ?_
     exact ih (k+1) _ W2 (by omega) r0 r1 rfl hj2
    ·refine ⟨_,rfl,?_⟩
     refine a0z rfl rfl rfl rfl (e2e (p:=false) (q:=true) rfl rfl) ?_
     exact wpIn_cond_true (by rw [b0s rfl];rfl) (wpIn_ret ⟨rfl,fin _ _ (.inr ⟨k+1,by omega,hx2⟩)⟩)
 exact key len 0 _ W (by omega) rfl rfl rfl h0
def vl0 (tS tE tI tB tY:TypeId):List Oper:=[{dst:=some 5,op:=Op.load tS (Operand.tmp 1),type:=tS,pos:= "iter.go:39",after:= #[],guard:=none},{dst:=some 6,op:=Op.call {callee:=Callee.builtin Builtin.len,args:= #[Operand.tmp 5],argTypes:= #[tS]},type:=tI,pos:= "iter.go:39",after:= #[{on:=0,ground:=Ground.data}],guard:=none},{dst:=some 7,op:=Op.move (Operand.const (Value.int IntKind.i64 0)),type:=tI,pos:= "iter.go:39",after:= #[],guard:=none}]
def vl1 (tS tE tI tB tY:TypeId):List Oper:=[{dst:=some 8,op:=Op.binOp BinOp.lss tI (Operand.tmp 7) (Operand.tmp 6) tI,type:=0,pos:= "iter.go:39",after:= #[],guard:=none}]
def vl2 (tS tE tI tB tY:TypeId):List Oper:=[{dst:=some 9,op:=Op.indexAddr tS (Operand.tmp 5) (Operand.tmp 7),type:=0,pos:= "iter.go:39",after:= #[],guard:=none},{dst:=some 10,op:=Op.load tE (Operand.tmp 9),type:=tE,pos:= "iter.go:39",after:= #[{on:=0,ground:=Ground.data}],guard:=none},{dst:=some 4,op:=Op.assign (Operand.tmp 10),type:=tE,pos:= "iter.go:39",after:= #[{on:=1,ground:=Ground.data},{on:=0,ground:=Ground.phase},{on:=1,ground:=Ground.phase}],guard:=none}]
def vl3 (tS tE tI tB tY:TypeId):List Oper:=[{dst:=some 11,op:=Op.move (Operand.tmp 0),type:=tY,pos:= "iter.go:40",after:= #[],guard:=none},{dst:=some 12,op:=Op.move (Operand.tmp 4),type:=tE,pos:= "iter.go:40",after:= #[],guard:=none},{dst:=some 13,op:=Op.call {callee:=Callee.value (Operand.tmp 11),args:= #[Operand.tmp 12],argTypes:= #[tE]},type:=tB,pos:= "iter.go:40",after:= #[{on:=0,ground:=Ground.data},{on:=1,ground:=Ground.data}],guard:=none},{dst:=some 14,op:=Op.unOp UnOp.not tB (Operand.tmp 13),type:=tB,pos:= "iter.go:40",after:= #[{on:=2,ground:=Ground.data}],guard:=none}]
def vl4 (tS tE tI tB tY:TypeId):List Oper:=[{dst:=some 15,op:=Op.binOp BinOp.add tI (Operand.tmp 7) (Operand.const (Value.int IntKind.i64 1)) tI,type:=tI,pos:= "iter.go:39",after:= #[],guard:=none},{dst:=some 7,op:=Op.move (Operand.tmp 15),type:=tI,pos:= "iter.go:39",after:= #[{on:=0,ground:=Ground.data}],guard:=none}]
def e7g (tS tE tI tB tY:TypeId):Code:=(Code.seq (Code.region 0 (vl0 tS tE tI tB tY).toArray false) (Code.block 0 (Code.loop (Code.seq (Code.region 1 (vl1 tS tE tI tB tY).toArray false) (Code.seq (Code.cond (Operand.tmp 8) Code.skip (Code.exit 0)) (Code.seq (Code.block 1 (Code.seq (Code.region 2 (vl2 tS tE tI tB tY).toArray false) (Code.seq (Code.region 3 (vl3 tS tE tI tB tY).toArray false) (Code.cond (Operand.tmp 14) Code.ret Code.skip)))) (Code.region 4 (vl4 tS tE tI tB tY).toArray false)))))))
theorem f4f {P:Program} {f:FuncId} {fn:Func} {tS tE tI tB tY:TypeId} {n:Nat} (hf:P.funcs[f]? =some fn) (hb:fn.body=some (e7g tS tE tI tB tY)) (hn:fn.ntmps=16) (hres:fn.results= #[]) (hS:P.underlying tS=some (.slice tE)) (hE:(P.info? tE).map (·.size)=some n)
  {l Bs len cap:Nat} {av:Option Addr} (hlen:len <= 9223372036854775807) (hcap:len <= cap) {vs:Nat -> Value} (J Jx:Nat -> World -> Prop)
  (hJ: ∀k W1,J k W1 -> (Instr.loadAt tS (.pointer (some ⟨Bs,0,none⟩))).run P W1= .ok (.slice av len cap) W1 /\ ∀j,j<len -> ∃ad,av=some ad /\ (Instr.loadAt tE (.pointer (some (ad.add (j*n))))).run P W1= .ok (vs j) W1)
  (hY: ∀k W1,J k W1 -> k<len -> YieldAt (FR none) 7 P l #[vs k] W1 fun e W'=>(e= .returned (.bool true) /\ J (k+1) W') \/ (e= .returned (.bool false) /\ Jx (k+1) W'))
  (W:World) (h0:J 0 W):CallsIn (FR none) 8 P f #[.func (.yield l) #[] #[],.pointer (some ⟨Bs,0,none⟩)] W fun e W'=>(∃v,e= .returned v) /\ (J len W' \/ ∃k,k <= len /\ Jx k W'):=by
 refine callsIn_of_wp hf hb trivial ?_ rfl
 have ha:=c3k (n:=16) [Value.func (.yield l) #[] #[],.pointer (some ⟨Bs,0,none⟩)] (by simp)
 rw [show ({tmps:= #[Value.func (.yield l) #[] #[],.pointer (some ⟨Bs,0,none⟩)]++Array.replicate (fn.ntmps-(#[Value.func (.yield l) #[] #[],.pointer (some ⟨Bs,0,none⟩)]:Array Value).size) undef,defers:=[]}:Act)=Frd 16 (fun t=>[Value.func (.yield l) #[] #[],.pointer (some ⟨Bs,0,none⟩)].getD t undef) [] by rw [hn];exact ha]
 have fin: ∀(ρ:Nat -> Value) (W':World),(J len W' \/ ∃k,k <= len /\ Jx k W') -> ∃v,(results fn (Frd 16 ρ []).tmps).run P W'= .ok v W' /\ (∃v',Ending.returned v= .returned v') /\ (J len W' \/ ∃k,k <= len /\ Jx k W'):=fun ρ W' h=>⟨_,by simp [results,hres];rfl,⟨_,rfl⟩,h⟩
 obtain ⟨hl0,_⟩:=hJ 0 W h0
 refine wpIn_seq (wpIn_region ?_)
 show wpOpsIn (FR none) 8 P (vl0 tS tE tI tB tY).toArray _ [0,1,2] _ _
 refine a0z rfl rfl rfl rfl (c5g rfl hl0) ?_
 refine a0z rfl rfl rfl rfl (e59 (v:= .slice av len cap) rfl (u:= .int .i64 len) (by simp [Builtin.len_,run_underlying hS];rfl)) ?_
 refine a0z rfl rfl rfl rfl (b4w (v:= .int .i64 0) rfl) ?_
 refine wpIn_block (wpIn_loop_rounds (len+1) ?_)
 have key: ∀(r k:Nat) (ρ:Nat -> Value) (W1:World),k+r=len -> ρ 0= .func (.yield l) #[] #[] -> ρ 5= .slice av len cap -> ρ 6= .int .i64 (len:Int) -> ρ 7= .int .i64 (k:Int) -> J k W1 ->
   Code.roundsIn (FR none) 8 P (Code.seq (Code.region 1 (vl1 tS tE tI tB tY).toArray false) (Code.seq (Code.cond (Operand.tmp 8) Code.skip (Code.exit 0)) (Code.seq (Code.block 1 (Code.seq (Code.region 2 (vl2 tS tE tI tB tY).toArray false) (Code.seq (Code.region 3 (vl3 tS tE tI tB tY).toArray false) (Code.cond (Operand.tmp 14) Code.ret Code.skip)))) (Code.region 4 (vl4 tS tE tI tB tY).toArray false))))
    (Exit.inBlock 0 (bodyPost P fn fun e W'=>(∃v,e= .returned v) /\ (J len W' \/ ∃k,k <= len /\ Jx k W'))) (r+1) (Frd 16 ρ []) W1:=by
  intro r
  induction r with
  | zero=>
    intro k ρ W1 hk r0 r5 r6 r7 hj
    obtain rfl:k=len:=by omega
    rw [roundsIn_succ]
    refine wpIn_seq (wpIn_region ?_)
    show wpOpsIn (FR none) 8 P (vl1 tS tE tI tB tY).toArray _ [0] _ _
    refine a0z rfl rfl rfl rfl (f0f (k:= .i64) (a:=k) (b:=k) (q:=false) r7 r6 (by simp)) ?_
    exact wpIn_seq (wpIn_cond_false (by rw [b0s rfl];rfl) (wpIn_exit (by simp only [Exit.then,Exit.inBlock,if_true];exact ⟨rfl,fin _ _ (.inl hj)⟩)))
  | succ r ih=>
    intro k ρ W1 hk r0 r5 r6 r7 hj
    obtain ⟨hl,hel⟩:=hJ k W1 hj
    obtain ⟨ad,rfl,hld⟩:=hel k (by omega)
    rw [roundsIn_succ]
    refine wpIn_seq (wpIn_region ?_)
    show wpOpsIn (FR none) 8 P (vl1 tS tE tI tB tY).toArray _ [0] _ _
    refine a0z rfl rfl rfl rfl (f0f (k:= .i64) (a:=k) (b:=len) (q:=true) r7 r6 (by simp;omega)) ?_
    refine wpIn_seq (wpIn_cond_true (by rw [b0s rfl];rfl) (wpIn_skip ?_))
    refine wpIn_seq (wpIn_block (wpIn_seq (wpIn_region ?_)))
    show wpOpsIn (FR none) 8 P (vl2 tS tE tI tB tY).toArray _ [0,1,2] _ _
    refine a0z rfl rfl rfl rfl (a7h (v:= .slice (some ad) len cap) (vi:= .int .i64 (k:Int)) r5 r7 (u:= .pointer (some (ad.add (k*n)))) (by have:=b85 (P:=P) (w:=W1) (a:=ad) (n:=len) (c:=cap) (i:=(k:Int)) hS hE ⟨by omega,by omega⟩;rwa [Int.toNat_natCast] at this)) ?_
    refine a0z rfl rfl rfl rfl (c5g rfl hld) ?_
    refine a0z rfl rfl rfl rfl (b3q rfl) ?_
    refine wpIn_seq (wpIn_region ?_)
    show wpOpsIn (FR none) 8 P (vl3 tS tE tI tB tY).toArray _ [0,1,2,3] _ _
    refine a0z rfl rfl rfl rfl (b4w (v:= .func (.yield l) #[] #[]) r0) ?_
    refine a0z rfl rfl rfl rfl (b4w (v:=vs k) rfl) ?_
    obtain ⟨f',tmps,assign,body,hy,hR⟩:=hY k W1 hj (by omega)
    refine d08 rfl rfl rfl rfl (fun _ h=>by cases h) (l:=l) (f:=f') (tmps:=tmps) (assign:=assign) (body:=body) (by simpa [execOp,resolve,ev,a9j,upd,Deferred.ofValue,invoke] using hy) hR ?_
    rintro e W2 (⟨rfl,hj2⟩ | ⟨rfl,hx2⟩)
    ·refine ⟨_,rfl,?_⟩
     refine a0z rfl rfl rfl rfl (e2e (p:=true) (q:=false) rfl rfl) ?_
     refine wpIn_cond_false (by rw [b0s rfl];rfl) (wpIn_skip ?_)
     refine wpIn_region ?_
     show wpOpsIn (FR none) 8 P (vl4 tS tE tI tB tY).toArray _ [0,1] _ _
     refine a0z rfl rfl rfl rfl (f3k (k:= .i64) (a:=k) (b:=1) (c:=(k:Int)+1) r7 rfl (d1v (by omega) (by omega))) ?_
     refine a0z rfl rfl rfl rfl (b4w rfl) ?_
     exact ih (k+1) _ W2 (by omega) r0 r5 r6 (by rw [show ((k+1:Nat):Int)=(k:Int)+1 from rfl];rfl) hj2
    ·refine ⟨_,rfl,?_⟩
     refine a0z rfl rfl rfl rfl (e2e (p:=false) (q:=true) rfl rfl) ?_
     exact wpIn_cond_true (by rw [b0s rfl];rfl) (wpIn_ret ⟨rfl,fin _ _ (.inr ⟨k+1,by omega,hx2⟩)⟩)
 exact key len 0 _ W (by omega) rfl rfl rfl rfl h0
end Go.SX
namespace Go.SX
open Go Go.PL Go.RowKit
theorem c9o {α:Type} (p:Nat -> Bool) (t:Nat): ∀l:List (Nat×α),lk t (l.filter fun q=>p q.1)=if p t=true then lk t l else none
 | []=>by simp [lk]
 | (k,a)::r=>by
   have ih:=c9o p t r
   have e:lk t ((k,a)::r)=bif Nat.beq k t then some a else lk t r:=rfl
   rw [e]
   by_cases hk:p k=true
   ·rw [List.filter_cons_of_pos (by simpa using hk)]
    show (bif Nat.beq k t then some a else lk t (r.filter fun q=>p q.1))=_
    rw [ih]
    cases hb:Nat.beq k t with
    | true=>rw [<- qC hb,if_pos hk];simp [hk]
    | false=>rfl
   ·rw [List.filter_cons_of_neg (by simpa using hk),ih]
    cases hb:Nat.beq k t with
    | true=>rw [<- qC hb,if_neg hk,if_neg hk]
    | false=>rfl
section
variable {U:Uni}
def fil (ws:List Nat) (σ:U.St):U.St:=⟨σ.sl.filter fun q=> !(ws.any (Nat.beq q.1)),σ.me,σ.nx⟩
theorem e13 {ws:List Nat} {t:Nat}:ws.any (Nat.beq t)=true↔t∈ws:=by
 rw [List.any_eq_true]
 constructor
 ·rintro ⟨x,hx,hb⟩;rw [qC hb];exact hx
 ·exact fun h=>⟨t,h,Nat.beq_refl t⟩
theorem e3m (ws:List Nat) (σ:U.St) (t:Nat):(fil ws σ).slot t=if t∈ws then .unk else σ.slot t:=by
 unfold fil St.slot
 simp only
 rw [c9o (fun k=> !(ws.any (Nat.beq k))) t σ.sl]
 by_cases h:t∈ws
 ·rw [if_pos h,if_neg (by simp [e13.2 h])]
 ·rw [if_neg h,if_pos (by
   have:ws.any (Nat.beq t)=false:=by
    cases hb:ws.any (Nat.beq t) with
    | true=>exact absurd (e13.1 hb) h
    | false=>rfl
   simp [this])]
variable {E:Env} {Z:Nat -> Prop} {π:Nat -> Value} {σ:U.St} {ρ ρ2:Nat -> Value} {w:World}
theorem e10 (h:Rel E Z π σ ρ2 w) {ws:List Nat} (hρ: ∀t,t∉ws -> ρ2 t=ρ t):Rel E Z π (fil ws σ) ρ w:=by
 refine ⟨fun t=> ?_,h.mem,h.own,h.dist,h.zlt,h.zin,h.zout,h.ext,h.pin,h.tab⟩
 have hc:cx Z π (fil ws σ) w=cx Z π σ w:=rfl
 rw [hc,e3m]
 split
 ·exact trivial
 ·rename_i ht
  rw [<- hρ t ht];exact h.slot t
theorem d1e (h:Rel E Z π σ ρ w) {id b:Nat} (hb:MB (σ.mem id) (π id) b) {o:Obj} (ho:w.heap[b]? =some o):c48 o=false:=by
 have hm:=h.mem id
 cases hs:σ.mem id<;>rw [hs] at hb hm<;>first
  | exact hb.elim
  | skip
 case box t a=>
  obtain ⟨b',u,hv,hM,_⟩:=hm
  rw [hv] at hb
  have hb:some b'=some b:=hb
  obtain rfl:=qH hb
  rw [show w.heap[b']? =_ from hM] at ho;cases ho;rfl
 case sl e c l=>
  obtain ⟨css,hO,_⟩:=hm
  rcases hO with ⟨hv,_⟩ | ⟨g,off,cap,cur,hv,_,hh,_⟩
  ·rw [hv] at hb;cases hb
  ·rw [hv] at hb
   have hb:some g=some b:=hb
   obtain rfl:=qH hb
   rw [show w.heap[g]? =_ from hh] at ho;cases ho;rfl
 case it s p=>
  obtain ⟨b',hv,_,hh⟩:=hm
  rw [hv] at hb
  have hb:some b'=some b:=hb
  obtain rfl:=qH hb
  rw [show w.heap[b']? =_ from hh] at ho;cases ho;rfl
 case mp l=>
  obtain ⟨b',hv,_,hh⟩:=hm
  rw [hv] at hb
  have hb:some b'=some b:=hb
  obtain rfl:=qH hb
  rw [show w.heap[b']? =_ from hh] at ho;cases ho;rfl
def f1j (B:Nat) (w:World):Nat -> Prop:=fun b=>B <= b /\ ∃o,w.heap[b]? =some o /\ c48 o=true
theorem Rel.recs (h:Rel E Z π σ ρ w) {B:Nat} (hB:E.w0.heap.size <= B):Rel E (fun b=>Z b \/ f1j B w b) π σ ρ w:=
 h.fzN (f1j B w) fun b ⟨h1,o,h2,h3⟩=>⟨(qN.1 h2).1,.inr (.inr (Nat.le_trans hB h1)),fun id hb=>by rw [d1e h hb h2] at h3;cases h3⟩
theorem Rel.keeps {Z' Z1:Nat -> Prop} {π':Nat -> Value} {σ':U.St} {ρ':Nat -> Value} {w':World} (h:Rel (E.re Z1 w) Z' π' σ' ρ' w') {B:Nat} (hz: ∀b,f1j B w b -> Z1 b):KeepsQ B w w':=
 ⟨h.ext.size,fun k o hk ho hr=>(h.ext.block k (qN.1 ho).1 fun hg=>hg.2 (hz k ⟨hk,o,ho,hr⟩)).trans ho⟩
end
end Go.SX
namespace Go.SX
open Go Go.PL Go.RowKit
section
variable {U:Uni} {P:Program} {Φ:Phi U} {n:Nat}
def d7k (D:Nat):Deferred:={target:= .collected D,args:= #[]}
def hdS (ws inv:List Nat) (al:List (Nat×Nat)) (es:List (EK U.C)) (σ:U.St) (s:Keep U es):U.St:=fil ws (d69 σ inv al es s)
def rfI (p0:Option Tmp) (n k:Nat):Int:=match p0 with | some _=>(n:Int)-1-k | none=>k
def rfX (p0:Option Tmp) (n k:Nat):Nat:=match p0 with | some _=>n-1-k | none=>k
def rfN (p0:Option Tmp) (i:Int):Int:=match p0 with | some _=>i-1 | none=>i+1
def rfE (p0:Option Tmp) (n:Nat) (i:Int):Bool:=match p0 with | some _=>decide (i<0) | none=>decide (i >= (n:Int))
def rfS (p0:Option Tmp) (n:Nat):Int:=match p0 with | some _=>(n:Int)-1 | none=>0
def rfP (p0:Option Tmp) (p1:Tmp):Array Tmp:=match p0 with | some p=> #[p,p1] | none=> #[p1]
def rfA (p0:Option Tmp) (i:Nat) (v:Value):Array Value:=match p0 with | some _=> #[.int .i64 (i:Int),v] | none=> #[v]
theorem c0o (p0:Option Tmp) (n k:Nat):rfI p0 n 0=rfS p0 n /\ rfN p0 (rfI p0 n k)=rfI p0 n (k+1) /\ rfE p0 n (rfI p0 n n)=true /\ (k<n -> rfE p0 n (rfI p0 n k)=false /\ rfI p0 n k=(rfX p0 n k:Int)):=by
 cases p0 with
 | none=>exact ⟨rfl,rfl,decide_eq_true (Int.le_refl _),fun h=>⟨decide_eq_false (by show¬((k:Int) >= (n:Int));omega),rfl⟩⟩
 | some p=>exact ⟨by show (n:Int)-1-((0:Nat):Int)=(n:Int)-1;omega,by show (n:Int)-1-k-1=(n:Int)-1-((k+1:Nat):Int);omega,decide_eq_true (by show (n:Int)-1-(n:Nat)<0;omega),fun h=>⟨decide_eq_false (by show¬((n:Int)-1-k<0);omega),by show (n:Int)-1-k=((n-1-k:Nat):Int);omega⟩⟩
def c4n {R:Type} (P:Program) (Φ:Phi U) (pins:List Nat) (p0:Option Tmp) (p1:Tmp) (as bd:Code) (ws inv:List Nat) (al:List (Nat×Nat)) (es:List (EK U.C)) (a1 a2:Ann U.C) (σ:U.St) (c:U.C) (l:List (U.T c)) (k:Kont U R) (rec:Keep U es×Int -> Option R) (q:Keep U es×Int):Option R:=
 if rfE p0 l.length q.2=true then k.norm (hdS ws inv al es σ q.1) else bindO (c8 l q.2) fun x=>
  den P Φ pins as a1 (((hdS ws inv al es σ q.1).app p0 (.int .i64 q.2) []).app (some p1) (inj c x) [])
   ⟨fun σ1=>den P Φ pins bd a2 σ1 ⟨fun σ2=>bindO (d0m pins al es σ2) fun s'=>rec (s',rfN p0 q.2),fun id σ2=>bindO (d0m pins al es σ2) fun s'=>k.exit id (hdS ws inv al es σ s'),fun σ2=>bindO (d0m pins al es σ2) fun s'=>k.ret (hdS ws inv al es σ s')⟩,fun _ _=>none,fun _=>none⟩
def f1u {R:Type} (P:Program) (Φ:Phi U) (pins:List Nat) (p0:Option Tmp) (p1:Tmp) (as bd:Code) (ws inv:List Nat) (al:List (Nat×Nat)) (es:List (EK U.C)) (a1 a2:Ann U.C) (σ:U.St) (c:U.C) (l:List (U.T c)) (k:Kont U R):Option R:=
 bindO (d0m pins al es σ) fun s=>d5 FU (c4n P Φ pins p0 p1 as bd ws inv al es a1 a2 σ c l k) (s,rfS p0 l.length)
structure BackOK (P:Program) (up:Bool) (g:FuncId) (tS tE:TypeId) (n:Nat):Prop where
 fn: ∃fn tI tB tY,P.funcs[g]? =some fn /\ (match up with | true=>fn.body=some (e7g tS tE tI tB tY) /\ fn.ntmps=16 | false=>fn.body=some (e7f tS tE tI tB tY) /\ fn.ntmps=19) /\ fn.results= #[]
 enters: ∀args w,(callFunc g args).run P w= .ok (.enter g args) w
 sl:P.underlying tS=some (.slice tE)
 sz:(P.info? tE).map (·.size)=some n
def PI (inv:List Nat) (σ:U.St) (ρ:Nat -> Value) (Z:Nat -> Prop) (W:World):Prop:= ∀t,t∈inv -> d28 (σ.slot t)=true -> AVR (⟨Z,fun _=>undef,fun _=>False,W⟩:Cx) (σ.slot t) (ρ t)
theorem PI.le {inv:List Nat} {σ:U.St} {ρ:Nat -> Value} {Z Z':Nat -> Prop} {W W':World} (h:PI inv σ ρ Z W) (hz: ∀b,Z b -> Z' b) (hE:Ext (fun b=> ¬Z b) W W'):PI inv σ ρ Z' W':=fun t ht hp=>
 AVR.le (X:=⟨Z,fun _=>undef,fun _=>False,W⟩) (X':=⟨Z',fun _=>undef,fun _=>False,W'⟩) ⟨hz,hE,fun _ h=>h.elim⟩ (h t ht hp)
theorem PI.pu {inv:List Nat} {σ:U.St} {ρ:Nat -> Value} {Z:Nat -> Prop} {W:World} (h:PI inv σ ρ Z W) {l:Nat} {o o':Obj} (hl:W.heap[l]? =some o) (ho:c48 o=true):PI inv σ ρ Z (W.putObj l o'):=fun t ht hp=>
 e66 (X:=⟨Z,fun _=>undef,fun _=>False,W⟩) hl ho (h t ht hp)
variable {E:Env} {Z:Nat -> Prop} {π:Nat -> Value} {σ:U.St} {ρ:Nat -> Value} {w:World}
theorem e05 (hU:UOK U) (hΦ:OKΦ P Φ) (hm:P.follows .mixedOrders=true) {pins:List Nat} {R:Type} {it p1:Tmp} {p0:Option Tmp} {as bd:Code} {ws inv:List Nat} {al:List (Nat×Nat)} {es:List (EK U.C)} {a1 a2:Ann U.C} {c:U.C} {l:List (U.T c)} {k:Kont U R} {r:R} {g:FuncId} {tS tE:TypeId}
  (hg:BackOK P p0.isNone g tS tE (U.n c)) (hfS:b0e P tS (.list c l:U.AV)=true) (hfE: ∀x:U.T c,b0e P tE (inj c x)=true)
  (hcA:a2v n as=true) (hcB:a2v n bd=true) (hna:c41 as=true) (hnb:c41 bd=true) (hws: ∀t,t∉ws -> t∉b28 as /\ t∉b28 bd /\ p0≠some t /\ t≠p1) (hinv: ∀t,t∈inv -> t∉ws) (hitn:it<n)
  (hpin: ∀i,E.pin i↔i∈pins) (hR:Rel E Z π σ ρ w) {Bs:Nat} {sv:Value} (hit:ρ it= .func (.func g) #[] #[.pointer (some ⟨Bs,0,none⟩)]) (hbox:Mb w Bs tS [sv]) (hBs:Z Bs) (hl:j5 (Rp c) (fun b=> ¬Z b) w sv l)
  (hden:f1u P Φ pins p0 p1 as bd ws inv al es a1 a2 σ c l k=some r) {ds:List Deferred} {Q:Exit -> (Nat -> Value) -> List Deferred -> World -> Prop}
  (hQn: ∀σ' Z' π' W D,Rel E Z' π' σ' ρ W -> (∀b,Z b -> Z' b) -> Ext (fun b=> ¬Z b) w W -> w.heap.size <= D -> Z' D -> W.heap[D]? =some (.deferred (some [])) -> k.norm σ'=some r -> Q .normal ρ (d7k D::ds) W)
  (hQe: ∀id σ' Z' π' W D,Rel E Z' π' σ' ρ W -> (∀b,Z b -> Z' b) -> Ext (fun b=> ¬Z b) w W -> w.heap.size <= D -> Z' D -> W.heap[D]? =some (.deferred (some [])) -> k.exit id σ'=some r -> Q (.exit id) ρ (d7k D::ds) W)
  (hQr: ∀σ' Z' π' W D,Rel E Z' π' σ' ρ W -> (∀b,Z b -> Z' b) -> Ext (fun b=> ¬Z b) w W -> w.heap.size <= D -> Z' D -> W.heap[D]? =some (.deferred (some [])) -> k.ret σ'=some r -> Q .ret ρ (d7k D::ds) W):
  (Code.rangeFunc (.tmp it) (rfP p0 p1) as bd).wpIn (FR none) 9 P (fun e a w'=> ∃ρ' ds',a=Frd n ρ' ds' /\ Q e ρ' ds' w') (Frd n ρ ds) w:=by
 obtain ⟨s,hs,hden⟩:=c07 hden
 obtain ⟨Z2,π2,hz2,hR2⟩:=b7z hU hR hpin hs
 have hPI:PI inv σ ρ Z2 w:=fun t ht hp=>AVR.le (X:=⟨Z,fun _=>undef,fun _=>False,w⟩) (X':=⟨Z2,fun _=>undef,fun _=>False,w⟩) ⟨hz2,Ext.refl _ _,fun _ h=>h.elim⟩ (c1x hp (hR.slot t) rfl rfl)
 have hR4:Rel E Z2 π2 (hdS ws inv al es σ s) ρ w:=e10 (c0z hR2 fun t ht hp=>c1x hp (hPI t ht hp) rfl rfl) fun _ _=>rfl
 have hR5:=hR4.re hU
 have hB1:(E.re Z2 w).w0.heap.size <= w.heap.size:=Nat.le_refl _
 obtain ⟨av,cap,hsv,hcap,hmax⟩:=hl.shape
 have hlen:l.length <= 9223372036854775807:=by
  have:maxLen=9223372036854775807:=by decide
  omega
 have hel: ∀j,∃u:Value,∀x,l[j]? =some x -> ∃ad,av=some ad /\ ad.block<w.heap.size /\ Z ad.block /\ a18 (⟨Z2,fun _=>undef,fun _=>False,w⟩:Cx) (inj c x) u /\ CA w (ad.add (j*U.n c)) u.cells.toList:=by
  intro j
  cases hx:l[j]? with
  | none=>exact ⟨undef,fun x h=>by cases h⟩
  | some x=>
    rcases hl with ⟨_,e⟩ | ⟨a,cap',hv,_,_,hi⟩
    ·rw [e] at hx;simp at hx
    ·obtain ⟨cs,hrep,hlt,hz,hca⟩:=hi j x hx
     have hz:Z a.block:=Classical.byContradiction fun h=>hz h
     have hrep':(Rp c).rep (⟨Z2,fun _=>undef,fun _=>False,w⟩:Cx).G w cs x:=(Rp c).weaken hrep fun b _ hb hz'=>hb (hz2 b hz')
     obtain ⟨u,hu,hA⟩:=d10 (X:=⟨Z2,fun _=>undef,fun _=>False,w⟩) hU hrep'
     refine ⟨u,fun x' hx'=> ?_⟩
     cases hx'
     have hav:av=some a:=by
      rw [hsv] at hv
      cases hv;rfl
     exact ⟨a,hav,hlt,hz,hA,by rw [hu];exact hca⟩
 obtain ⟨vs,hvs⟩:=Classical.axiomOfChoice hel
 have facts: ∀{σ1:U.St} {Z1 π1 W1},Rel (E.re Z2 w) Z1 π1 σ1 ρ W1 -> (Instr.loadAt tS (.pointer (some ⟨Bs,0,none⟩))).run P W1= .ok (.slice av l.length cap) W1 /\ ∀j,j<l.length -> ∃ad,av=some ad /\ (Instr.loadAt tE (.pointer (some (ad.add (j*U.n c))))).run P W1= .ok (vs j) W1:=by
  intro σ1 Z1 π1 W1 h1
  have hle:Cx.Le (⟨Z2,fun _=>undef,fun _=>False,w⟩:Cx) (⟨Z1,fun _=>undef,fun _=>False,W1⟩:Cx):=⟨fun b hb=>h1.zout b hb,h1.ext.mono fun b hb hz=>hb.2 hz,fun _ h=>h.elim⟩
  have same: ∀b,b<w.heap.size -> Z b -> W1.heap[b]? =w.heap[b]? :=fun b hb hz=>h1.ext.block b hb fun hg=>hg.2 (hz2 b hz)
  refine ⟨?_,fun j hj=> ?_⟩
  ·have hA:a18 (⟨Z2,fun _=>undef,fun _=>False,w⟩:Cx) (.list c l:U.AV) sv:=(show j5 (Rp c) (fun b=> ¬Z2 b) w sv l from hl.weaken fun b _ hb hz=>hb (hz2 b hz))
   have hcell:sv.cells.toList=[sv]:=a8x hl
   have hca:CA W1 ⟨Bs,0,none⟩ sv.cells.toList:=by
    rw [hcell]
    exact (hbox.ca).of_block (same Bs hbox.lt hBs)
   have:=c1k (P:=P) hU hfS (a18.le hle hA) hca
   rw [hsv] at this
   exact this
  ·obtain ⟨ad,hav,hlt,hz,hA,hca⟩:=hvs j _ (qG hj)
   exact ⟨ad,hav,c1k (P:=P) hU (hfE _) (a18.le hle hA) (hca.of_block (by rw [a1d];exact same _ hlt hz))⟩
 let BODY:=c4n P Φ pins p0 p1 as bd ws inv al es a1 a2 σ c l k
 let kb (m:Nat) (i:Int):Kont U R:=⟨fun σ2=>bindO (d0m pins al es σ2) fun s'=>d5 m BODY (s',rfN p0 i),fun id σ2=>bindO (d0m pins al es σ2) fun s'=>k.exit id (hdS ws inv al es σ s'),fun σ2=>bindO (d0m pins al es σ2) fun s'=>k.ret (hdS ws inv al es σ s')⟩
 let I:Nat -> World -> Prop:=fun kk W=> ∃m s1 Z1 π1,Rel (E.re Z2 w) Z1 π1 (hdS ws inv al es σ s1) ρ W /\ PI inv σ ρ Z1 W /\ d5 m BODY (s1,rfI p0 l.length kk)=some r
 let Ix:Nat -> Code -> World -> Prop:=fun _ cd W=> ∃s1 Z1 π1,Rel (E.re Z2 w) Z1 π1 (hdS ws inv al es σ s1) ρ W /\ ((cd= .ret /\ k.ret (hdS ws inv al es σ s1)=some r) \/ ∃id,cd= .exit id /\ k.exit id (hdS ws inv al es σ s1)=some r)
 let Ax:Nat -> Act -> World -> Prop:=fun kk a' W=> ∃m ρ1 σ1 Z1 π1,a'=Frd n ρ1 [] /\ (∀t,t∉ws -> ρ1 t=ρ t) /\ Rel (E.re Z2 w) Z1 π1 σ1 ρ1 W /\ PI inv σ ρ Z1 W /\ den P Φ pins bd a2 σ1 (kb m (rfI p0 l.length kk))=some r
 have alE: ∀{Z1:Nat -> Prop} (W:World) (o:Obj),Ext (fun b=> ¬Z1 b) W (W.alloc o):=fun W o=>Ext.alloc _ W o
 have back: ∀{Z1 Z3 π3 W W2} {σ2:U.St} {ρ2:Nat -> Value} {s':Keep U es},PI inv σ ρ Z1 W -> (∀t,t∉ws -> ρ2 t=ρ t) -> (∀b,Z1 b -> Z3 b) -> Ext (fun b=> ¬Z1 b) W W2 -> Rel (E.re Z2 w) Z3 π3 σ2 ρ2 W2 -> d0m pins al es σ2=some s' ->
   ∃Z4 π4,Rel (E.re Z2 w) Z4 π4 (hdS ws inv al es σ s') ρ W2 /\ PI inv σ ρ Z4 W2:=by
  intro Z1 Z3 π3 W W2 σ2 ρ2 s' hp hρ hz hE h2 hs'
  obtain ⟨Z4,π4,hz4,hR'⟩:=b7z hU h2 (fun i=>hpin i) hs'
  have hp4:PI inv σ ρ Z4 W2:=hp.le (fun b hb=>hz4 b (hz b hb)) hE
  refine ⟨Z4,π4,e10 (c0z hR' fun t ht hpu=> ?_) hρ,hp4⟩
  rw [hρ t (hinv t ht)]
  exact c1x hpu (hp4 t ht hpu) rfl rfl
 have main:=e5w (P:=P) (g:= .tmp it) (ps:=rfP p0 p1) (assign:=as) (body:=bd) (Q:=fun e a w'=> ∃ρ' ds',a=Frd n ρ' ds' /\ Q e ρ' ds' w') (a:=Frd n ρ ds) (w:=w) (gf:=g) (lb:= #[.pointer (some ⟨Bs,0,none⟩)])
  (by rw [b0s (by simpa [Operand.below] using hitn)];exact hit) hg.enters (fun kk=>rfA p0 (rfX p0 l.length kk) (vs (rfX p0 l.length kk))) l.length (fun _=>by cases p0<;>rfl) I Ix Ax ?hit ?cI ?cX ?cA ⟨FU,s,Z2,π2,hR5,hPI,by rw [(c0o p0 l.length 0).1];exact hden⟩ ?hass ?hbody ?hdone ?hstop
 ·exact main
 case hit=>
  intro l' J Jx W hBelow hJI _ hY h0
  obtain ⟨fn,tI,tB,tY,hf,hb,hres⟩:=hg.fn
  have hB: ∀kk W1,J kk W1 -> kk<l.length -> YieldAt (FR none) 7 P l' (rfA p0 (rfX p0 l.length kk) (vs (rfX p0 l.length kk))) W1 fun e W'=>(e= .returned (.bool true) /\ J (kk+1) W') \/ (e= .returned (.bool false) /\ Jx (kk+1) W'):=fun kk W1 hj hk=>by
   obtain ⟨f1,t1,a1,b1,q1,q2⟩:=hY kk W1 hj hk
   exact ⟨f1,t1,a1,b1,q1,RoundIn.mono q2 fun e W' h=>h.imp (fun h=>⟨h.1,h.2.1⟩) fun h=>h⟩
  cases p0 with
  | none=>exact f4f (P:=P) hf hb.1 hb.2 hres hg.sl hg.sz hlen hcap J Jx (fun kk W1 hj=>by obtain ⟨_,_,_,_,h1,_,_⟩:=hJI kk W1 hj;exact facts h1) hB W h0
  | some p=>exact f3t (P:=P) hf hb.1 hb.2 hres hg.sl hg.sz hlen hcap J Jx (fun kk W1 hj=>by obtain ⟨_,_,_,_,h1,_,_⟩:=hJI kk W1 hj;exact facts h1) hB W h0
 case cI=>
  intro kk
  refine ⟨fun W o ⟨m,s1,Z1,π1,h1,h2,h3⟩=>⟨m,s1,Z1,π1,h1.al o,h2.le (fun _ h=>h) (alE W o),h3⟩,fun W l' o o' hB hl' ho ⟨m,s1,Z1,π1,h1,h2,h3⟩=>⟨m,s1,Z1,π1,h1.pu hU hB hl' ho,h2.pu hl' ho,h3⟩⟩
 case cX=>
  intro kk cd
  refine ⟨fun W o ⟨s1,Z1,π1,h1,h2⟩=>⟨s1,Z1,π1,h1.al o,h2⟩,fun W l' o o' hB hl' ho ⟨s1,Z1,π1,h1,h2⟩=>⟨s1,Z1,π1,h1.pu hU hB hl' ho,h2⟩⟩
 case cA=>
  intro kk a'
  refine ⟨fun W o ⟨m,ρ1,σ1,Z1,π1,e,hρ,h1,h2,h3⟩=>⟨m,ρ1,σ1,Z1,π1,e,hρ,h1.al o,h2.le (fun _ h=>h) (alE W o),h3⟩,fun W l' o o' hB hl' ho ⟨m,ρ1,σ1,Z1,π1,e,hρ,h1,h2,h3⟩=>⟨m,ρ1,σ1,Z1,π1,e,hρ,h1.pu hU hB hl' ho,h2.pu hl' ho,h3⟩⟩
 case hass=>
  rintro l' kk W ⟨m,s1,Z1,π1,h1,h2,h3⟩ hk
  cases m with
  | zero=>cases h3
  | succ m=>
    have h3:c4n P Φ pins p0 p1 as bd ws inv al es a1 a2 σ c l k (d5 m BODY) (s1,rfI p0 l.length kk)=some r:=h3
    obtain ⟨_,_,_,hkl⟩:=c0o p0 l.length kk
    obtain ⟨hne,hidx⟩:=hkl hk
    unfold c4n at h3
    rw [if_neg (by rw [hne];simp)] at h3
    obtain ⟨x,hx,h3⟩:=c07 h3
    have hx:c8 l (rfI p0 l.length kk)=some x:=hx
    obtain ⟨ii,hii⟩: ∃ii,rfI p0 l.length kk=ii:=⟨_,rfl⟩
    rw [hii] at hx hidx h3
    generalize rfX p0 l.length kk=xi at hidx
    have hxj:l[xi]? =some x:=by
     have:=(b33 hx).2.2
     rwa [hidx,Int.toNat_natCast] at this
    obtain ⟨ad,hav,hlt,hz,hA,hca⟩:=hvs _ x hxj
    have hfr:(((rfP p0 p1).zip (rfA p0 xi (vs xi))).foldl (fun t (p,v)=>t.setIfInBounds p v) (Frd n ρ ds).tmps)=(Frd n (a9j (a9j ρ p0 (.int .i64 (xi:Int))) (some p1) (vs xi)) []).tmps:=by
     have e2:=congrArg Act.tmps (c04 n (a9j ρ p0 (.int .i64 (xi:Int))) ds (some p1) (vs xi))
     cases p0 with
     | none=>
       have ez:(#[p1]:Array Tmp).zip #[vs xi]= #[(p1,vs xi)]:=by simp
       show (((#[p1]:Array Tmp).zip #[vs xi]).foldl _ _)=_
       rw [ez]
       exact e2
     | some p=>
       have e1:=congrArg Act.tmps (c04 n ρ ds (some p) (.int .i64 (xi:Int)))
       simp only [Act.put] at e1 e2
       have ez:(#[p,p1]:Array Tmp).zip #[Value.int .i64 (xi:Int),vs xi]= #[(p,Value.int .i64 (xi:Int)),(p1,vs xi)]:=by simp
       show (((#[p,p1]:Array Tmp).zip #[Value.int .i64 (xi:Int),vs xi]).foldl _ _)=_
       rw [ez]
       show ((Frd n ρ ds).tmps.setIfInBounds p _).setIfInBounds p1 _=_
       rw [e1]
       exact e2
    rw [hfr]
    have hr:=h1.recs (B:=w.heap.size) hB1
    have hr2:=hr.re hU
    have hle:Cx.Le (⟨Z2,fun _=>undef,fun _=>False,w⟩:Cx) (cx (fun b=>Z1 b \/ f1j w.heap.size W b) π1 ((hdS ws inv al es σ s1).app p0 (.int .i64 ii) []) W):=⟨fun b hb=> .inl (h1.zout b hb),h1.ext.mono fun b hb hz=>hb.2 hz,fun _ h=>h.elim⟩
    have hv1:=hr2.val (d:=p0) (a:= .int .i64 ii) (v:= .int .i64 (xi:Int)) (Ext.refl noG W) (by show Value.int .i64 _=Value.int .i64 _;rw [hidx])
    have hv2:=hv1.val (d:=some p1) (a:=inj c x) (v:=vs xi) (Ext.refl noG W) (AVR.of1 (a18.le hle hA))
    have hwp:=a5d hU hΦ hm as a1 _ _ r hcA h3 ((E.re Z2 w).re (fun b=>Z1 b \/ f1j w.heap.size W b) W) (fun i=>hpin i) (fun t=>t∉ws) ρ (fun e ρ1 W1=>e= .normal /\ KeepsQ w.heap.size W W1 /\ Ax kk (Frd n ρ1 []) W1) (fun t ht=>(hws t ht).1)
     ⟨fun σ' Z' π' ρ1 W1 hρ1 hR1 h'=> ?_,fun i σ' Z' π' ρ1 W1 hρ1 hR1 h'=>(by cases h'),fun σ' Z' π' ρ1 W1 hρ1 hR1 h'=>(by cases h')⟩ _ _ _ W (fun t ht=> ?_) hv2
    ·refine d4j (wpIn_mono (hwp (some l') [] (.inr hna)) ?_)
     rintro e a' W1 ⟨ρ1,rfl,rfl,hkq,hax⟩
     exact ⟨hkq,hax⟩
    ·refine ⟨rfl,Rel.keeps hR1 fun b hb=> .inr hb,m,ρ1,σ',Z',π',rfl,hρ1,Rel.un hr hR1,h2.le (fun b hb=>hR1.zout b (.inl hb)) (hR1.ext.mono fun b hb hz=>hb.2 (.inl hz)),by rw [hii];exact h'⟩
    ·obtain ⟨_,_,n0,n1⟩:=hws t ht
     rw [c1v,if_neg (by simpa using fun e=>n1 e.symm),c1v,if_neg n0]
 case hbody=>
  rintro l' kk a' W ⟨m,ρ1,σ1,Z1,π1,rfl,hρ1,h1,h2,h3⟩ hk
  have hr:=h1.recs (B:=w.heap.size) hB1
  have hr2:=hr.re hU
  have hwp:=a5d hU hΦ hm bd a2 _ _ r hcB h3 ((E.re Z2 w).re (fun b=>Z1 b \/ f1j w.heap.size W b) W) (fun i=>hpin i) (fun t=>t∉ws) ρ (fun e ρ2 W2=>f2h w.heap.size (I (kk+1)) (Ix (kk+1)) W e (Frd n ρ []) W2) (fun t ht=>(hws t ht).2.1)
   ⟨fun σ' Z' π' ρ2 W2 hρ2 hR2 h'=> ?_,fun i σ' Z' π' ρ2 W2 hρ2 hR2 h'=> ?_,fun σ' Z' π' ρ2 W2 hρ2 hR2 h'=> ?_⟩ _ _ _ W hρ1 hr2
  ·refine d4j (wpIn_mono (hwp (some l') [] (.inr hnb)) ?_)
   rintro e a' W1 ⟨ρ2,rfl,hq⟩
   cases e<;>exact hq
  ·obtain ⟨s',hs',h'⟩:=c07 h'
   obtain ⟨Z4,π4,hR4',hp4⟩:=back h2 hρ2 (fun b hb=>hR2.zout b (.inl hb)) (hR2.ext.mono fun b hb hz=>hb.2 (.inl hz)) (Rel.un hr hR2) hs'
   refine ⟨Rel.keeps hR2 fun b hb=> .inr hb,m,s',Z4,π4,hR4',hp4,?_⟩
   rw [<- (c0o p0 l.length kk).2.1];exact h'
  ·obtain ⟨s',hs',h'⟩:=c07 h'
   obtain ⟨Z4,π4,hR4',hp4⟩:=back h2 hρ2 (fun b hb=>hR2.zout b (.inl hb)) (hR2.ext.mono fun b hb hz=>hb.2 (.inl hz)) (Rel.un hr hR2) hs'
   exact ⟨Rel.keeps hR2 fun b hb=> .inr hb,s',Z4,π4,hR4',.inr ⟨i,rfl,h'⟩⟩
  ·obtain ⟨s',hs',h'⟩:=c07 h'
   obtain ⟨Z4,π4,hR4',hp4⟩:=back h2 hρ2 (fun b hb=>hR2.zout b (.inl hb)) (hR2.ext.mono fun b hb hz=>hb.2 (.inl hz)) (Rel.un hr hR2) hs'
   exact ⟨Rel.keeps hR2 fun b hb=> .inr hb,s',Z4,π4,hR4',.inl ⟨rfl,h'⟩⟩
 case hdone=>
  rintro D W hD ⟨m,s1,Z1,π1,h1,h2,h3⟩ hWD
  cases m with
  | zero=>cases h3
  | succ m=>
    have h3:c4n P Φ pins p0 p1 as bd ws inv al es a1 a2 σ c l k (d5 m BODY) (s1,rfI p0 l.length l.length)=some r:=h3
    unfold c4n at h3
    rw [if_pos (c0o p0 l.length 0).2.2.1] at h3
    have hRE:=Rel.un hR4 h1
    have hfz:=hRE.fzN (fun b=>b=D) fun b hb=>by
     subst hb
     exact ⟨(qN.1 hWD).1,.inr (.inr (Nat.le_trans hR.ext.size hD)),fun id hMB=>by have:=d1e hRE hMB hWD;cases this⟩
    have hZ: ∀b,Z b -> Z1 b \/ b=D:=fun b hb=> .inl (h1.zout b (hz2 b hb))
    have hEx:Ext (fun b=> ¬Z b) w W:=h1.ext.mono fun b hb hz=>hb.2 (hz2 b hz)
    exact ⟨ρ,d7k D::ds,rfl,hQn _ _ _ W D hfz hZ hEx hD (.inr rfl) hWD h3⟩
 case hstop=>
  rintro D kk cd W hD hk ⟨s1,Z1,π1,h1,h3⟩ hWD
  have hRE:=Rel.un hR4 h1
  have hfz:=hRE.fzN (fun b=>b=D) fun b hb=>by
   subst hb
   exact ⟨(qN.1 hWD).1,.inr (.inr (Nat.le_trans hR.ext.size hD)),fun id hMB=>by have:=d1e hRE hMB hWD;cases this⟩
  have hZ: ∀b,Z b -> Z1 b \/ b=D:=fun b hb=> .inl (h1.zout b (hz2 b hb))
  have hEx:Ext (fun b=> ¬Z b) w W:=h1.ext.mono fun b hb hz=>hb.2 (hz2 b hz)
  rcases h3 with ⟨rfl,h3⟩ | ⟨id,rfl,h3⟩
  ·exact wpIn_ret ⟨ρ,d7k D::ds,rfl,hQr _ _ _ W D hfz hZ hEx hD (.inr rfl) hWD h3⟩
  ·exact wpIn_exit ⟨ρ,d7k D::ds,rfl,hQe id _ _ _ W D hfz hZ hEx hD (.inr rfl) hWD h3⟩
end
end Go.SX
namespace Go.SX
open Go Go.PL Go.RowKit
section
variable {U:Uni} {P:Program} {Φ:Phi U} {n:Nat}
def Dn (E:Env) (Z:Nat -> Prop) (w:World) (ds:List Deferred):Prop:= ∃Ds:List Nat,ds=Ds.map d7k /\ Ds.Nodup /\ ∀D∈Ds,Z D /\ E.w0.heap.size <= D /\ w.heap[D]? =some (.deferred (some []))
theorem Dn.le {E:Env} {Z Z':Nat -> Prop} {w w':World} {ds:List Deferred} (h:Dn E Z w ds) (hz: ∀b,Z b -> Z' b) (hE:Ext (fun b=> ¬Z b) w w'):Dn E Z' w' ds:=by
 obtain ⟨Ds,e,hn,hD⟩:=h
 exact ⟨Ds,e,hn,fun D hm=>by
  obtain ⟨h1,h2,h3⟩:=hD D hm
  exact ⟨hz D h1,h2,(hE.block D (qN.1 h3).1 fun h=>h h1).trans h3⟩⟩
theorem Dn.cons {E:Env} {Z:Nat -> Prop} {w:World} {ds:List Deferred} (h:Dn E Z w ds) {D:Nat} (hz:Z D) (hB:E.w0.heap.size <= D) (hw:w.heap[D]? =some (.deferred (some []))) (hlt: ∀D'∈ds,D'≠d7k D):Dn E Z w (d7k D::ds):=by
 obtain ⟨Ds,rfl,hn,hD⟩:=h
 refine ⟨D::Ds,rfl,List.nodup_cons.2 ⟨fun hm=>hlt _ (List.mem_map.2 ⟨D,hm,rfl⟩) rfl,hn⟩,fun D' hm=> ?_⟩
 rcases qO.1 hm with rfl | hm
 ·exact ⟨hz,hB,hw⟩
 ·exact hD D' hm
structure KOKD {R:Type} (E:Env) (k:Kont U R) (r:R) (Q:Exit -> (Nat -> Value) -> List Deferred -> World -> Prop):Prop where
 norm: ∀σ Z π ρ ds w,Rel E Z π σ ρ w -> Dn E Z w ds -> k.norm σ=some r -> Q .normal ρ ds w
 exit: ∀i σ Z π ρ ds w,Rel E Z π σ ρ w -> Dn E Z w ds -> k.exit i σ=some r -> Q (.exit i) ρ ds w
 ret: ∀σ Z π ρ ds w,Rel E Z π σ ρ w -> Dn E Z w ds -> k.ret σ=some r -> Q .ret ρ ds w
def e8u {R:Type} (bk:FuncId -> Option (TypeId×U.C×Bool)) (up:Bool) (σ:U.St) (t:Tmp) (K:(c:U.C) -> List (U.T c) -> U.St -> Option R):Option R:=match σ.slot t with
 | .clo g [.ref i]=>match bk g,σ.mem i with
   | some (tS,c,u),.box t' b=>match Nat.beq t' tS&&(u==up),b with
     | true,.list _ l=>(match b44 c l with | some l=>K c l (σ.app none .unk [(i,.dead)]) | none=>none)
     | true,.nils=>K c [] (σ.app none .unk [(i,.dead)])
     | _,_=>none
   | _,_=>none
 | .vl g t' _ l=>match bk g with
   | some (tS,c,u)=>(match Nat.beq t' tS&&(u==up),b44 c l with | true,some l=>K c l σ | _,_=>none)
   | none=>none
 | _=>none
def wsR (p0:Option Tmp) (p1:Tmp) (as bd:Code):List Nat:=(match p0 with | some p=>p::p1::(b28 as++b28 bd) | none=>p1::(b28 as++b28 bd))
def psO:List Tmp -> Option (Option Tmp×Tmp)
 | [p0,p1]=>some (some p0,p1)
 | [p1]=>some (none,p1)
 | _=>none
def e86 {R:Type} (P:Program) (Φ:Phi U) (bk:FuncId -> Option (TypeId×U.C×Bool)) (pins:List Nat):Code -> Ann U.C -> U.St -> Kont U R -> Option R
 | .seq a b,an,σ,k=>match c41 (.seq a b) with
   | true=>den P Φ pins (.seq a b) an σ k
   | false=>e86 P Φ bk pins a an.fst σ ⟨fun σ=>e86 P Φ bk pins b an.snd σ k,k.exit,k.ret⟩
 | .block id a,an,σ,k=>match c41 a with
   | true=>den P Φ pins (.block id a) an σ k
   | false=>e86 P Φ bk pins a an σ ⟨k.norm,fun i σ=>match Nat.beq i id with | true=>k.norm σ | false=>k.exit i σ,k.ret⟩
 | .rangeFunc it ps as bd,an,σ,k=>match it,psO ps.toList,an with
   | .tmp t,some (p0,p1),.l inv al es an'=>match d8p inv (wsR p0 p1 as bd) with
     | true=>e8u bk p0.isNone σ t fun c l σ1=>f1u P Φ pins p0 p1 as bd (wsR p0 p1 as bd) inv al es an'.fst an'.snd σ1 c l k
     | false=>none
   | _,_,_=>none
 | c,an,σ,k=>match c41 c with | true=>den P Φ pins c an σ k | false=>none
def e2n (n:Nat):Code -> Bool
 | .seq a b=>match c41 (.seq a b) with | true=>a2v n (.seq a b) | false=>e2n n a&&e2n n b
 | .block id a=>match c41 a with | true=>a2v n (.block id a) | false=>e2n n a
 | .rangeFunc it ps as bd=>(match it with | .tmp t=>decide (t<n) | _=>false)&&(a2v n as&&a2v n bd&&(c41 as&&c41 bd))
 | c=>a2v n c
variable {E:Env} {Z:Nat -> Prop} {π:Nat -> Value} {σ:U.St} {ρ:Nat -> Value} {w:World}
theorem b62 (σ:U.St) (i id:Nat):(σ.app none .unk [(i,.dead)]).mem id=if i=id then .dead else σ.mem id:=by
 unfold St.app St.put St.mem
 simp only [List.cons_append,List.nil_append]
 have e:lk id ((i,(MC.dead:U.MC))::σ.me)=bif Nat.beq i id then some .dead else lk id σ.me:=rfl
 rw [e]
 by_cases h:i=id
 ·subst h;rw [if_pos rfl,Nat.beq_refl];rfl
 ·rw [if_neg h,show Nat.beq i id=false from by
   cases hb:Nat.beq i id with
   | true=>exact absurd (qC hb) h
   | false=>rfl]
  rfl
theorem Rel.kill (h:Rel E Z π σ ρ w) {i:Nat} (hi:σ.mem i≠ .never):Rel E (fun b=>Z b \/ MB (σ.mem i) (π i) b) π (σ.app none .unk [(i,.dead)]) ρ w:=by
 have hcx:cx Z π (σ.app none .unk [(i,.dead)]) w=cx Z π σ w:=by
  unfold cx
  congr 1
  funext id
  unfold b39
  rw [b62]
  by_cases e:i=id
  ·subst e;rw [if_pos rfl];exact propext ⟨fun _=>hi,fun _ h=>by cases h⟩
  ·rw [if_neg e]
 have hK:Rel E Z π (σ.app none .unk [(i,.dead)]) ρ w:=by
  refine ⟨fun t=>by rw [hcx];exact h.slot t,fun id=> ?_,fun id b hb=> ?_,fun id id' b hne h1 h2=> ?_,h.zlt,h.zin,h.zout,h.ext,fun id hp=> ?_,h.tab⟩
  ·rw [hcx,b62]
   split
   ·exact trivial
   ·exact h.mem id
  ·rw [b62] at hb
   split at hb
   ·exact hb.elim
   ·exact h.own id b hb
  ·rw [b62] at h1 h2
   split at h1
   ·exact h1.elim
   ·split at h2
    ·exact h2.elim
    ·exact h.dist id id' b hne h1 h2
  ·obtain ⟨h1,h2⟩:=h.pin id hp
   refine ⟨?_,h2⟩
   unfold b39
   rw [b62]
   split
   ·exact fun h=>by cases h
   ·exact h1
 refine hK.fzN _ fun b hb=> ?_
 obtain ⟨h1,h2,h3⟩:=h.own i b hb
 refine ⟨h2,.inr h3,fun id hid=> ?_⟩
 rw [b62] at hid
 split at hid
 ·exact hid.elim
 ·rename_i hne
  exact h.dist i id b hne hb hid
def f7w (K:(Nat -> Value) -> List Deferred -> World -> Prop) (Q:Exit -> (Nat -> Value) -> List Deferred -> World -> Prop):Exit -> (Nat -> Value) -> List Deferred -> World -> Prop
 | .normal,ρ,ds,w=>K ρ ds w
 | e,ρ,ds,w=>Q e ρ ds w
def e7m (id:Nat) (Q:Exit -> (Nat -> Value) -> List Deferred -> World -> Prop):Exit -> (Nat -> Value) -> List Deferred -> World -> Prop
 | .exit id',ρ,ds,w=>if id'=id then Q .normal ρ ds w else Q (.exit id') ρ ds w
 | e,ρ,ds,w=>Q e ρ ds w
def WPD (P:Program) (n:Nat) (c:Code) (Q:Exit -> (Nat -> Value) -> List Deferred -> World -> Prop) (ρ:Nat -> Value) (ds:List Deferred) (w:World):Prop:=
 c.wpIn (FR none) 9 P (fun e a w'=> ∃ρ' ds',a=Frd n ρ' ds' /\ Q e ρ' ds' w') (Frd n ρ ds) w
theorem c1a (hU:UOK U) (hΦ:OKΦ P Φ) (hm:P.follows .mixedOrders=true) {pins:List Nat} {R:Type} {c:Code} {an:Ann U.C} {k:Kont U R} {r:R} (hc:a2v n c=true) (h:den P Φ pins c an σ k=some r)
  (hpin: ∀i,E.pin i↔i∈pins) {Q:Exit -> (Nat -> Value) -> List Deferred -> World -> Prop} (hk:KOKD E k r Q) (hR:Rel E Z π σ ρ w) {ds:List Deferred} (hD:Dn E Z w ds):WPD P n c Q ρ ds w:=by
 have up: ∀{σ':U.St} {Z' π' ρ' w'},Rel (E.re Z w) Z' π' σ' ρ' w' -> Rel E Z' π' σ' ρ' w' /\ Dn E Z' w' ds:=fun h=>⟨Rel.un hR h,hD.le (fun b hb=>h.zout b hb) (h.ext.mono fun b hb hz=>hb.2 hz)⟩
 have hwp:=a5d hU hΦ hm c an σ k r hc h (E.re Z w) (fun i=>hpin i) (fun _=>False) ρ (fun e ρ' w'=>Q e ρ' ds w') (fun _ h=>h.elim)
  ⟨fun σ' Z' π' ρ' w' _ h1 h2=>hk.norm σ' Z' π' ρ' ds w' (up h1).1 (up h1).2 h2,fun i σ' Z' π' ρ' w' _ h1 h2=>hk.exit i σ' Z' π' ρ' ds w' (up h1).1 (up h1).2 h2,fun σ' Z' π' ρ' w' _ h1 h2=>hk.ret σ' Z' π' ρ' ds w' (up h1).1 (up h1).2 h2⟩ Z π ρ w (fun _ h=>h.elim) (hR.re hU)
 exact wpIn_mono (hwp none ds (.inl rfl)) fun e a w' ⟨ρ',ha,hq⟩=>⟨ρ',ds,ha,hq⟩
def BKS (P:Program) (bk:FuncId -> Option (TypeId×U.C×Bool)):Prop:= ∀g tS c up,bk g=some (tS,c,up) -> ∃tE,BackOK P up g tS tE (U.n c) /\ (∀l:List (U.T c),b0e P tS (.list c l:U.AV)=true) /\ ∀x:U.T c,b0e P tE (inj c x)=true
theorem d6y {R:Type} {bk:FuncId -> Option (TypeId×U.C×Bool)} {up:Bool} {t:Tmp} {K:(c:U.C) -> List (U.T c) -> U.St -> Option R} {r:R} (h:e8u bk up σ t K=some r) (hR:Rel E Z π σ ρ w):
  ∃g tS c l Bs sv σ1 Z1,bk g=some (tS,c,up) /\ K c l σ1=some r /\ ρ t= .func (.func g) #[] #[.pointer (some ⟨Bs,0,none⟩)] /\ Mb w Bs tS [sv] /\ Z1 Bs /\ j5 (Rp c) (fun b=> ¬Z1 b) w sv l /\ Rel E Z1 π σ1 ρ w /\ ∀b,Z b -> Z1 b:=by
 unfold e8u at h
 split at h
 ·rename_i g i hs
  have hsl:=hR.slot t
  rw [hs] at hsl
  obtain ⟨us,hv,hall⟩:=hsl
  match us,hall with
  | [u1],hall=>
    have h1:a18 (cx Z π σ w) (.ref i) u1:=hall.1
    have hu1:u1=π i:=h1.2.1
    split at h
    ·rename_i tS c u0 t' b hbk hmi
     have hm:=hR.mem i
     rw [hmi] at hm
     obtain ⟨Bs,uu,hpi,hM,hA⟩:=hm
     have hne:σ.mem i≠ .never:=by rw [hmi];intro e;cases e
     have hk:=hR.kill hne
     have hzB:MB (σ.mem i) (π i) Bs:=by rw [hmi,hpi];rfl
     have fin: ∀(l:List (U.T c)),(Nat.beq t' tS&&(u0==up))=true -> K c l (σ.app none .unk [(i,.dead)])=some r -> j5 (Rp c) (fun b=> ¬Z b) w uu l -> ∃g tS c l Bs sv σ1 Z1,bk g=some (tS,c,up) /\ K c l σ1=some r /\ ρ t= .func (.func g) #[] #[.pointer (some ⟨Bs,0,none⟩)] /\ Mb w Bs tS [sv] /\ Z1 Bs /\ j5 (Rp c) (fun b=> ¬Z1 b) w sv l /\ Rel E Z1 π σ1 ρ w /\ ∀b,Z b -> Z1 b:=by
      intro l ht hK hl
      simp only [qB,beq_iff_eq] at ht
      have hup:=ht.2
      have ht:=qC ht.1
      subst ht
      subst hup
      refine ⟨g,t',c,l,Bs,uu,_,_,hbk,hK,by rw [hv,hu1,hpi],by rw [<- a8x hl];exact hM,.inr hzB,hl.weaken fun b _ hb hz=>hb (.inl hz),hk,fun b hb=> .inl hb⟩
     split at h
     ·rename_i ht
      split at h
      ·rename_i l2 hcl
       obtain ⟨he,rfl⟩:=a2b (G:=fun b=> ¬Z b) (w:=w) hcl
       subst he
       exact fin _ ht h hA
      ·cases h
     ·rename_i ht
      exact fin [] ht h (by rw [show uu= .slice none 0 0 from hA];exact j5.nil _ _ _)
     ·cases h
    ·cases h
 ·rename_i g t' c0 l0 hs
  have hsl:=hR.slot t
  rw [hs] at hsl
  obtain ⟨bb,sv,hv,⟨hlt,hg⟩,hM,hS⟩:=hsl
  have hzB:Z bb:=Classical.byContradiction fun hh=>hg hh
  split at h
  case h_2=>cases h
  rename_i tS c u0 hbk
  split at h
  case h_2=>cases h
  rename_i l ht hcl
  simp only [qB,beq_iff_eq] at ht
  have hup:=ht.2
  have ht:=qC ht.1
  subst ht
  subst hup
  obtain ⟨he,rfl⟩:=a2b (G:=fun b=> ¬Z b) (w:=w) hcl
  subst he
  exact ⟨g,t',_,_,bb,sv,σ,Z,hbk,h,hv,hM,hzB,hS,hR,fun _ hb=>hb⟩
 ·cases h
theorem e3h {ps:Array Tmp} {p0:Option Tmp} {p1:Tmp} (h:psO ps.toList=some (p0,p1)):ps=rfP p0 p1:=by
 obtain ⟨l⟩:=ps
 match l,h with
 | [a,b],h=>cases h;rfl
 | [a],h=>cases h;rfl
theorem d7g (hU:UOK U) (hΦ:OKΦ P Φ) (hm:P.follows .mixedOrders=true) {bk:FuncId -> Option (TypeId×U.C×Bool)} (hbk:BKS P bk) {pins:List Nat} {R:Type}: ∀(c:Code) (an:Ann U.C) (σ:U.St) (k:Kont U R) (r:R),e2n n c=true -> e86 P Φ bk pins c an σ k=some r -> ∀(E:Env),(∀i,E.pin i↔i∈pins) -> ∀Q,KOKD E k r Q -> ∀Z π ρ ds w,Rel E Z π σ ρ w -> Dn E Z w ds -> WPD P n c Q ρ ds w:=by
 intro c
 have plain: ∀(c:Code) (an:Ann U.C) (σ:U.St) (k:Kont U R) (r:R),a2v n c=true -> (match c41 c with | true=>den P Φ pins c an σ k | false=>none)=some r -> ∀(E:Env),(∀i,E.pin i↔i∈pins) -> ∀Q,KOKD E k r Q -> ∀Z π ρ ds w,Rel E Z π σ ρ w -> Dn E Z w ds -> WPD P n c Q ρ ds w:=by
  intro c an σ k r hc h E hpin Q hk Z π ρ ds w hR hD
  split at h
  ·exact c1a hU hΦ hm hc h hpin hk hR hD
  ·cases h
 induction c with
 | seq a b iha ihb=>
   intro an σ k r hc h E hpin Q hk Z π ρ ds w hR hD
   simp only [e86] at h
   simp only [e2n] at hc
   cases hn:c41 (.seq a b) with
   | true=>rw [hn] at h hc;exact c1a hU hΦ hm hc h hpin hk hR hD
   | false=>
     rw [hn] at h hc
     simp only [qB] at hc
     refine wpIn_seq (wpIn_mono (iha an.fst σ _ r hc.1 h E hpin (f7w (WPD P n b Q) Q) ⟨fun σ' Z' π' ρ' ds' w' h1 h2 h3=>ihb an.snd σ' k r hc.2 h3 E hpin Q hk Z' π' ρ' ds' w' h1 h2,fun i σ' Z' π' ρ' ds' w' h1 h2 h3=>hk.exit i σ' Z' π' ρ' ds' w' h1 h2 h3,fun σ' Z' π' ρ' ds' w' h1 h2 h3=>hk.ret σ' Z' π' ρ' ds' w' h1 h2 h3⟩ Z π ρ ds w hR hD) ?_)
     rintro e a' w' ⟨ρ',ds',rfl,hq⟩
     cases e<;>first | exact hq | exact ⟨ρ',ds',rfl,hq⟩
 | block id a iha=>
   intro an σ k r hc h E hpin Q hk Z π ρ ds w hR hD
   simp only [e86] at h
   simp only [e2n] at hc
   cases hn:c41 a with
   | true=>
     rw [hn] at h hc;exact c1a hU hΦ hm hc h hpin hk hR hD
   | false=>
     rw [hn] at h hc
     refine wpIn_block (wpIn_mono (iha an σ _ r hc h E hpin (e7m id Q) ⟨fun σ' Z' π' ρ' ds' w' h1 h2 h3=>hk.norm σ' Z' π' ρ' ds' w' h1 h2 h3,fun i σ' Z' π' ρ' ds' w' h1 h2 h3=> ?_,fun σ' Z' π' ρ' ds' w' h1 h2 h3=>hk.ret σ' Z' π' ρ' ds' w' h1 h2 h3⟩ Z π ρ ds w hR hD) ?_)
     ·show (if i=id then Q .normal ρ' ds' w' else Q (.exit i) ρ' ds' w')
      have h3:(match Nat.beq i id with | true=>k.norm σ' | false=>k.exit i σ')=some r:=h3
      cases hb:Nat.beq i id with
      | true=>rw [hb] at h3;rw [if_pos (qC hb)];exact hk.norm σ' Z' π' ρ' ds' w' h1 h2 h3
      | false=>rw [hb] at h3;rw [if_neg (Nat.ne_of_beq_eq_false hb)];exact hk.exit i σ' Z' π' ρ' ds' w' h1 h2 h3
     ·rintro e a' w' ⟨ρ',ds',rfl,hq⟩
      cases e<;>first
       | exact ⟨ρ',ds',rfl,hq⟩
       | (rename_i id'
          simp only [e7m,Exit.inBlock] at hq⊢
          by_cases hid:id'=id
          ·simp only [hid,if_true] at hq ⊢; exact ⟨ρ',ds',rfl,hq⟩
          ·simp only [hid,if_false] at hq ⊢; exact ⟨ρ',ds',rfl,hq⟩)
 | rangeFunc it ps as bd _ _=>
   intro an σ k r hc h E hpin Q hk Z π ρ ds w hR hD
   simp only [e86] at h
   split at h
   ·rename_i t p0 p1 inv al es an' hps
    split at h
    ·rename_i hap
     obtain ⟨g,tS,c,l,Bs,sv,σ1,Z1,hg,hden,hit,hbox,hBs,hl,hR1,hZ1⟩:=d6y h hR
     obtain ⟨tE,hB,hfS,hfE⟩:=hbk g tS c _ hg
     simp only [e2n,qB,decide_eq_true_eq] at hc
     have hps':=e3h hps
     subst hps'
     have hD1:Dn E Z1 w ds:=hD.le hZ1 (Ext.refl _ _)
     have dsl: ∀(D:Nat),w.heap.size <= D -> ∀D'∈ds,D'≠d7k D:=by
      obtain ⟨Ds,rfl,_,hDs⟩:=hD
      intro D hge D' hm e
      obtain ⟨D0,h0,rfl⟩:=List.mem_map.1 hm
      have:=(qN.1 (hDs D0 h0).2.2).1
      have e1:D0=D:=by
       unfold d7k at e
       injection e with e _
       injection e
      omega
     refine e05 hU hΦ hm hB (hfS l) hfE hc.2.1.1 hc.2.1.2 hc.2.2.1 hc.2.2.2 (fun t ht=> ?_) (fun t ht=>c3y hap ht) hc.1 hpin hR1 hit hbox hBs hl hden ?_ ?_ ?_
     ·unfold wsR at ht
      cases p0 with
      | none=>simp only [qO,qK,not_or] at ht;exact ⟨ht.2.1,ht.2.2,(fun e=>by cases e),ht.1⟩
      | some p=>simp only [qO,qK,not_or] at ht;exact ⟨ht.2.2.1,ht.2.2.2,(fun e=>ht.1 (qH e).symm),ht.2.1⟩
     ·intro σ' Z' π' W D h1 hz hE hge hzD hWD hk'
      exact hk.norm σ' Z' π' ρ _ W h1 ((hD1.le hz hE).cons hzD (Nat.le_trans hR.ext.size hge) hWD (dsl D hge)) hk'
     ·intro id σ' Z' π' W D h1 hz hE hge hzD hWD hk'
      exact hk.exit id σ' Z' π' ρ _ W h1 ((hD1.le hz hE).cons hzD (Nat.le_trans hR.ext.size hge) hWD (dsl D hge)) hk'
     ·intro σ' Z' π' W D h1 hz hE hge hzD hWD hk'
      exact hk.ret σ' Z' π' ρ _ W h1 ((hD1.le hz hE).cons hzD (Nat.le_trans hR.ext.size hge) hWD (dsl D hge)) hk'
    ·cases h
   ·cases h
 | skip=>exact fun an σ k r hc h=>plain _ an σ k r hc h
 | region id ops draw=>exact fun an σ k r hc h=>plain _ an σ k r hc h
 | cond c a b _ _=>exact fun an σ k r hc h=>plain _ an σ k r hc h
 | loop a _=>exact fun an σ k r hc h=>plain _ an σ k r hc h
 | exit id=>exact fun an σ k r hc h=>plain _ an σ k r hc h
 | scope a _=>exact fun an σ k r hc h=>plain _ an σ k r hc h
 | label l=>exact fun an σ k r hc h=>plain _ an σ k r hc h
 | goto l=>exact fun an σ k r hc h=>plain _ an σ k r hc h
 | ret=>exact fun an σ k r hc h=>plain _ an σ k r hc h
 | refuse s=>exact fun an σ k r hc h=>plain _ an σ k r hc h
end
end Go.SX
