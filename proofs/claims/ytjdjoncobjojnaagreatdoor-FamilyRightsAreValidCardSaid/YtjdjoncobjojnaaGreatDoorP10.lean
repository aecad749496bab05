/- Texts of the proof, joined. -/
import Derived.Test.YtjdjoncobjojnaaGreatDoorP9
import Derived.Test.YtjdjoncobjojnaaGreatDoorProg
import Derived.DeepKeys4
import Derived.KernelRfl
set_option linter.defProp false
set_option linter.unusedVariables false
set_option linter.unusedSimpArgs false
set_option maxRecDepth 100000
open List
namespace Go.PL
open Go Go.SX Go.Proofs
def h4f:laidOutB Tryz.prog=true:=by kernel_rfl
def g5w(q:Int×Int):Prop:=c4v q.1=true/\c4v q.2=true
def g94{n:Int}(h:c4v n=true):(Lit.int .i64 n).wf=true:=by unfold c4v at h;simp only[qB,decide_eq_true_eq]at h;simp[Lit.wf,IntKind.min,IntKind.max,IntKind.signed,IntKind.bits];omega
def pKey:KeyS Tryz.prog 306 g5w:=⟨deep_law_laid h4f (m:=2) (by omega) (of_decide_eq_true (by kernel_rfl)) (by kernel_rfl) (by kernel_rfl),λq h=>e7b (by kernel_rfl) (g94 h.1) (g94 h.2)⟩
noncomputable section
noncomputable abbrev pP:Program:=Tryz.prog
noncomputable abbrev pF:Func:=Tryz.f164
noncomputable abbrev cF:TyC:=.y8
noncomputable abbrev cS:TyC:=.y0
noncomputable abbrev cP:TyC:=.zr
noncomputable abbrev cR:TyC:=.yb
noncomputable def pK:List (Kn pP VV):=[K58,k1x,m0s,f3j]
noncomputable def pPhi:Phi VV:=λg as2=>lkF g as2 (pK.map Kn.e)
def pOk:OKΦ pP pPhi:=okl (f8d pK)
noncomputable def pC:Code:=pF.body.getD .skip
noncomputable def pL1:Code:=cK (cK (cB (cA (cB (cB pC)))))
noncomputable def pL2:Code:=cK (cK (cB (cA (cB (cB (cB (cB pC)))))))
noncomputable def pM2:Code:=cK (cB (cB pL2))
noncomputable def pL3:Code:=cK (cK (cB (cB pM2)))
noncomputable def cellS(x:Span):List Go.Value:=[.int .i64 x.From,.int .i64 x.To]
noncomputable def cellP(x:Posting):List Go.Value:=[.int .i64 x.Seat,.int .i64 x.State,.int .i64 x.Span.From,.int .i64 x.Span.To]
def hS1(G:Nat->Prop)(w:World)(cs:List Go.Value)(x:Span)(h:(SX.Rp (U:=VV) cS).rep G w cs x):cs=cellS x:=by obtain⟨_,css,rfl,hh⟩:=a91.1 h;match css,hh with|[a,b],⟨h1,h2,_⟩=>rw[show a=_ from h1,show b=_ from h2];rfl
def hS2(G:Nat->Prop)(w:World)(x:Span):(SX.Rp (U:=VV) cS).rep G w (cellS x) x:=a91.2 ⟨rfl,[[.int .i64 x.From],[.int .i64 x.To]],rfl,⟨rfl,rfl,trivial⟩⟩
def hP1(G:Nat->Prop)(w:World)(cs:List Go.Value)(x:Posting)(h:(SX.Rp (U:=VV) cP).rep G w cs x):cs=cellP x:=by obtain⟨_,css,rfl,hh⟩:=a91.1 h;match css,hh with|[a,b,c],⟨h1,h2,h3,_⟩=>rw[show a=_ from h1,show b=_ from h2,hS1 _ _ _ _ h3];rfl
def hP2(G:Nat->Prop)(w:World)(x:Posting):(SX.Rp (U:=VV) cP).rep G w (cellP x) x:=a91.2 ⟨rfl,[[.int .i64 x.Seat],[.int .i64 x.State],cellS x.Span],rfl,⟨rfl,rfl,hS2 _ _ _,trivial⟩⟩
def hR1(G:Nat->Prop)(w:World)(cs:List Go.Value)(x:uQ)(h:(SX.Rp (U:=VV) cR).rep G w cs x):Go.Value.agg cs.toArray=kvv (x.seat,x.state):=by obtain⟨_,css,rfl,hh⟩:=a91.1 h;match css,hh with|[a,b],⟨h1,h2,_⟩=>rw[show a=_ from h1,show b=_ from h2];rfl
def hR2(G:Nat->Prop)(w:World)(x:uQ):(SX.Rp (U:=VV) cR).rep G w [.int .i64 x.seat,.int .i64 x.state] x:=a91.2 ⟨rfl,[[.int .i64 x.seat],[.int .i64 x.state]],rfl,⟨rfl,rfl,trivial⟩⟩
abbrev GI:=GrpI 35 cellS 2
noncomputable abbrev pRun{R:Type}(b:Nat)(c:Code)(σ:VV.St)(K:VV.St->Option R):Option R:=e1o pP pPhi b (c5o c) σ K
noncomputable abbrev lF(l:List aQ):VV.AV:=.list cF l
noncomputable abbrev nI(n:Int):VV.AV:=.int .i64 n
noncomputable abbrev pI(n:Nat):VV.AV:=.int .i64 (n:Int)
def eqA(l:List aQ):(pRun 0 (cA pC) ⟨[(0,lF l)],[],0⟩ λs=>pRun 100 (cA (cB pC)) s λs=>pRun 200 (cA (cA (cB (cB pC)))) s λs=>some (refM s 3,refM s 14,s.slot 15,s.slot 16))=Option.bind (a4f l) λcur=>some (some (.mp []),some (.sl 37 cF cur),pI cur.length,nI 0):=by kernel_rfl
def eq1(l:List aQ)(n i:Int):(pRun 0 (cA pL1) ⟨[(14,lF l),(15,nI n),(16,nI i)],[],0⟩ λs=>some (s.slot 17,pRun 100 (cA (cK (cA (cB (cB pL1))))) s λs=>pRun 200 (cA (cB (cK (cA (cB (cB pL1)))))) s λs=>some (s.slot 22,pRun 300 (cA (cA (cB (cB (cK (cA (cB (cB pL1)))))))) s λs=>e1o pP pPhi 400 ((c5o (cB (cA (cB (cB (cK (cA (cB (cB pL1))))))))).drop 1|>.take 4) (s.app (some 28) .unk []) λs=>some (s.slot 29,s.slot 32,refM s 33))))=some (.bool (decide (i<n)),Option.bind (c7 l i) λx=>some (.bool (x.Kind==4),some (.val cR ⟨x.Seat,x.State⟩,.val cS x.Span,some (.sl 35 cS [x.Span])))):=by kernel_rfl
def eq8(i:Int):(pRun 0 (cB (cB (cB pL1))) ⟨[(16,nI i)],[],0⟩ λs=>some (s.slot 16))=some (nI (i64 (i+1))):=by kernel_rfl
def eq9:(pRun 0 (cA (cB (cB (cB pC)))) ⟨[],[],0⟩ λs=>some (s.slot 7))=some .nils:=by kernel_rfl
def eq12(l:List aQ)(r:uQ)(d:List Span):(e1o pP pPhi 0 ((c5o (cA pM2)).drop 3) ⟨[(0,lF l),(43,.val cR r),(44,.list cS d)],[],0⟩ λs=>pRun 200 (cA (cB pM2)) s λs=>some (refM s 8,refM s 48,s.slot 49,s.slot 50))=Option.bind (a2i l) λsp=>Option.bind (s6 d sp) λc=>some (some (.box 306 (.val cR r)),some (.sl 35 cS c),pI c.length,nI 0):=by kernel_rfl
def eq3(r:uQ)(c:List Span)(out:List Posting)(n i:Int):(pRun 100 (cA pL3) ⟨[(7,.ref 0),(8,.rp (.val cR r)),(48,.list cS c),(49,nI n),(50,nI i)],[(0,.sl 310 cP out)],1⟩ λs=>some (s.slot 51,refM s 7,pRun 200 (cA (cK (cA (cB (cB pL3))))) s λs=>pRun 300 (cB (cK (cA (cB (cB pL3))))) s λs=>some (refM s 7)))=some (.bool (decide (i<n)),some (.sl 310 cP out),Option.bind (c7 c i) λx=>Option.bind (a4n 32 out [⟨r.seat,r.state,x⟩]) λo=>some (some (.sl 310 cP o))):=by kernel_rfl
def eq17(i:Int):(pRun 0 (cB (cB (cB pL3))) ⟨[(50,nI i)],[],0⟩ λs=>some (s.slot 50))=some (nI (i64 (i+1))):=by kernel_rfl
def eq18(out:List Posting):(pRun 100 (cA (cB (cB (cB (cB (cB pC)))))) ⟨[(7,.ref 0)],[(0,.sl 310 cP out)],1⟩ λs=>pRun 200 (cA (cB (cB (cB (cB (cB (cB pC))))))) s λs=>some (refM s 2))=Option.bind (c9 out) λr=>some (some (.sl 310 cP r)):=by kernel_rfl
def g5s(w:World):Prop:=VV.tab w/\∀b,VV.tb b->b<w.heap.size
def g5s.ext{G:Nat->Prop}{w w':World}(h:g5s w)(hE:Ext G w w')(hG:∀b,VV.tb b->¬G b):g5s w':=⟨UOK.tabK uok _ _ h.1 λb hb=>hE.block b (h.2 b hb) (hG b hb),λb hb=>Nat.lt_of_lt_of_le (h.2 b hb) hE.size⟩
def k9.all{α:Type}{R:TyR α}{G:Nat->Prop}{w:World}{v:Go.Value}{l:List α}(h:k9 R G w v l){Z:Nat->Prop}(hZ:∀b,b<w.heap.size->¬G b->Z b):k9 R (λb=>¬Z b) w v l:=h.weaken λb hb hg=>Classical.byContradiction λhn=>hg (hZ b hb hn)
def mem3{α:Type}{a b c:α}{p:α->Prop}(h1:p a)(h2:p b)(h3:p c):∀x∈[a,b,c],p x:=λx hx=>by simp only[qO,List.not_mem_nil,or_false]at hx;rcases hx with rfl|rfl|rfl<;>assumption
def h21{α:Type}{a:α}{p:α->Prop}(h1:p a):∀x∈[a],p x:=λx hx=>by simp only[qO,List.not_mem_nil,or_false]at hx;subst hx;exact h1
def e18(l:List aQ):List ((Int×Int)×List Span):=l.foldl b6k []
def f2s{l:List aQ}{i:Nat}{x:aQ}(h:l[i]?=some x):e18 (l.take (i+1))=b6k (e18 (l.take i)) x:=by unfold e18;rw[take_add_one,h,Option.toList_some,foldl_append];rfl
structure I1(wA:World)(ρA:Nat->Go.Value)(bm:Nat)(cur:List aQ)(i:Nat)(V:ML)(ρ:Nat->Go.Value)(w:World):Prop where
 le:i<=cur.length
 keep:∀t,t=0\/t=3\/t=14->ρ t=ρA t
 len:ρ 15=.int .i64 (cur.length:Int)ix:ρ 16=.int .i64 (i:Int)gi:GI bm wA.heap.size w V (e18 (cur.take i))ext:Ext (λb=>b=bm) wA w
 wf:∀p∈V,g5w p.1short:∀p∈e18 (cur.take i),p.2.length<=i
def d7o{n:Int}(h0:0<=n)(h1:n<=1000000):i64 n=n:=by show IntKind.i64.wrap n=n;have h2:n%2^64=n:=Int.emod_eq_of_lt h0 (by omega);unfold IntKind.wrap;simp only[IntKind.signed,IntKind.bits,h2];rw[if_neg];simp only[Bool.true_and,decide_eq_true_eq];omega
def e6d{L:List ((Int×Int)×List Span)}{k:Int×Int}{x:Span}{n:Nat}(h:∀p∈L,p.2.length<=n):∀p∈f7i L k x,p.2.length<=n+1:=by
 have hent:∀p∈c3v L k [],p.2.length<=n:=by
  intro p hp;unfold c3v at hp;split at hp;.exact h p hp
  .rcases qK.1 hp with hp|hp;.exact h p hp
   .simp only[qF]at hp;subst hp;exact Nat.zero_le _
 intro p hp;unfold f7i at hp;split at hp
 .rename_i q hq;rcases mem_or_eq_of_mem_set hp with hp|hp;.exact Nat.le_succ_of_le (hent p hp)
  .subst hp;have:=hent q (qE hq);simp;omega
 .exact Nat.le_succ_of_le (h p hp)
def h3h{Q:Exit->(Nat->Go.Value)->World->Prop}{wA w:World}{ρA ρ:Nat->Go.Value}{bm:Nat}{cur:List aQ}(hT:g5s wA)(hTb:∀b,VV.tb b->b≠bm)(h3:ρA 3=.map (some bm))(h14:k9 (SX.Rp (U:=VV) cF) (λb=>b=bm) wA (ρA 14) cur)(hlen:cur.length<=1000)(hkeys:(cur.all λf=>c4v f.Seat&&c4v f.State)=true)(h0:I1 wA ρA bm cur 0 [] ρ w)(hQ:∀V ρ w,I1 wA ρA bm cur cur.length V ρ w->Q (.exit 0) ρ w):WP pP 67 (.loop pL1) Q ρ w:=by
 refine WP.loop (λk ρ w=>∃i V,k+i=cur.length+1/\I1 wA ρA bm cur i V ρ w) (cur.length+1) ⟨0,[],by omega,h0⟩ (λρ w⟨i,V,hk,h⟩=>by have:=h.le;omega) ?_;rintro k ρ w⟨i,V,hk,hI⟩;have hTw:=hT.ext hI.ext hTb;have h14w:=(h14.ext hI.ext).all (Z:=λb=>b<w.heap.size) λb hb _=>hb;have hR:=Rel.fresh (U:=VV) (sl:=[(14,lF cur),(15,pI cur.length),(16,pI i)]) (nx:=0) (ρ:=ρ) hTw (b96 (mem3 (by rw[hI.keep 14 (by omega)];exact h14w) hI.len hI.ix));refine WP.seqP (by kernel_rfl) (WP.fragP uok pOk (by kernel_rfl) (eq1 cur cur.length i) hR λσ3 Z3 π3 ρ3 w3 hK3 hR3 hf3=>?_);obtain⟨h17,hrest⟩:=Prod.mk.inj (qH hK3);have hs17:=hR3.slot 17;rw[h17]at hs17;refine WP.seqP (by kernel_rfl) (WP.condP (t:=17) (by kernel_rfl) hs17 (λht=>?_) λhfl=>?_)
 .have hlt:i<cur.length:=by have:=of_decide_eq_true ht;omega
  obtain⟨x,hx⟩:∃x,cur[i]?=some x:=⟨_,qG hlt⟩;have hget:c7 cur (i:Int)=some x:=by unfold c7;rw[if_pos (Int.natCast_nonneg i),Int.toNat_natCast];exact hx
  rw[hget]at hrest;have fin:∀V' ρ' w',(∀t∈[0,3,14,15],ρ' t=ρ t)->ρ' 16=ρ 16->GI bm wA.heap.size w' V' (e18 (cur.take (i+1)))->Ext (λb=>b=bm) wA w'->(∀p∈V',g5w p.1)->(∀p∈e18 (cur.take (i+1)),p.2.length<=i+1)->WP pP 67 (cB (cB (cB pL1))) (d78 (λρ w=>∃i V,k+i=cur.length+1/\I1 wA ρA bm cur i V ρ w) Q) ρ' w':=by
   intro V' ρ' w' k1 k2 k3 k4 k5 k6;have hR':=Rel.fresh (U:=VV) (sl:=[(16,pI i)]) (nx:=0) (ρ:=ρ') (hT.ext k4 hTb) (b96 (h21 (by rw[k2];exact hI.ix)));refine WP.fragP uok pOk (by kernel_rfl) (eq8 i) hR' λσ8 Z8 π8 ρ8 w8 hK8 hR8 hf8=>?_;have hE8:Ext noG w' w8:=hR8.ext;have h16:=hR8.slot 16;rw[qH hK8]at h16;refine⟨i+1,V',by omega,hlt,λt ht=>?_,?_,?_,k3.exn hE8,k4.trans hE8.of_no,k5,k6⟩;.rw[hf8 t (b35 (T:=[0,3,14]) (by kernel_rfl) (by simp;omega)),k1 t (by simp;omega)];exact hI.keep t ht
   .rw[hf8 15 (b35 (T:=[15]) (by kernel_rfl) (by simp)),k1 15 (by simp)];exact hI.len
   .rw[show ρ8 16=.int .i64 (i64 ((i:Int)+1))from h16,d7o (by omega) (by omega)];rfl
  refine WP.skipP (by kernel_rfl) ?_;refine WP.seqP (by kernel_rfl) (WP.blockP (id:=1) (by kernel_rfl) (WP.seqP (by kernel_rfl) (WP.fragP uok pOk (by kernel_rfl) hrest hR3 λσ4 Z4 π4 ρ4 w4 hK4 hR4 hf4=>?_)));refine WP.seqP (by kernel_rfl) (WP.fragP uok pOk (by kernel_rfl) hK4 hR4 λσ5 Z5 π5 ρ5 w5 hK5 hR5 hf5=>?_);obtain⟨h22,hrest2⟩:=Prod.mk.inj (qH hK5);have hs22:=hR5.slot 22;rw[h22]at hs22;have hE5:Ext noG w w5:=hR5.ext;have hk5:∀t∈[0,3,14,15,16],ρ5 t=ρ t:=λt ht=>by rw[hf5 t (b35 (T:=[0,3,14,15,16]) (by kernel_rfl) ht),hf4 t (b35 (T:=[0,3,14,15,16]) (by kernel_rfl) ht),hf3 t (b35 (T:=[0,3,14,15,16]) (by kernel_rfl) ht)]
  have hg:=f2s hx;refine WP.condP (t:=22) (by kernel_rfl) hs22 (λhk=>?_) (λhk=>?_)
  .have hk4:x.Kind=4:=by simpa using hk
   refine WP.seqP (by kernel_rfl) (WP.fragP uok pOk (by kernel_rfl) hrest2 hR5 λσ6 Z6 π6 ρ6 w6 hK6 hR6 hf6=>?_);refine WP.regP (by kernel_rfl) ?_;rw[show c5o (cB (cA (cB (cB (cK (cA (cB (cB pL1))))))))=(c5o (cB (cA (cB (cB (cK (cA (cB (cB pL1))))))))).take 1++(((c5o (cB (cA (cB (cB (cK (cA (cB (cB pL1))))))))).drop 1).take 4++(c5o (cB (cA (cB (cB (cK (cA (cB (cB pL1))))))))).drop 5)by kernel_rfl];refine c7o.append (show c7o pP [⟨some 28,.move (.tmp 3),_,_,_,none⟩] _ ρ6 w6 from⟨rfl,a0k.val (v:=ρ6 3) (w':=w6) rfl ?_⟩);refine c7o.append ((c01 uok pOk _ 400 _ _ _ _ _ _ _ hK6 (hR6.val (a:=.unk) (d:=some 28) (Ext.refl _ _) trivial)).mono ?_);rintro ρ7 w7⟨⟨σ7,Z7,π7,hK7,hR7⟩,hf7⟩;have hK7:=qH hK7;have h29:=(Prod.mk.inj hK7).1;have h33:=(Prod.mk.inj (Prod.mk.inj hK7).2).2;have hE7:Ext noG w w7:=hR7.ext;have hs29:=hR7.slot 29;rw[h29]at hs29;obtain⟨cs,hv29,hcs⟩:=hs29;obtain⟨hm33,hb33⟩:=hR7.refM h33;have hk7:∀t∈[0,3,14,15,16],ρ7 t=ρ t:=λt ht=>by rw[hf7 t (b35 (T:=[0,3,14,15,16]) (by kernel_rfl) ht),show b20 ρ6 (some 28) (ρ6 3) t=ρ6 t from c1l _ _ (by simp only[qO,List.not_mem_nil,or_false]at ht;omega),hf6 t (b35 (T:=[0,3,14,15,16]) (by kernel_rfl) ht),hk5 t ht]
   have h28:ρ7 28=.map (some bm):=by rw[hf7 28 (b35 (T:=[28]) (by kernel_rfl) (by simp)),show b20 ρ6 (some 28) (ρ6 3) 28=ρ6 3from f6c _ _ _,hf6 3 (b35 (T:=[3]) (by kernel_rfl) (by simp)),hk5 3 (by simp),hI.keep 3 (by omega),h3]
   have hgi:=hI.gi.exn hE7;have hkx:=qX.1 hkeys x (qE hx);rw[qB]at hkx;have hO33:PL.Own 0 35 2 cellS w7 (ρ7 33) [x.Span]:=b9b (X:=cx Z7 π7 σ7 w7) hS1 hm33;obtain⟨ad,cap,hsh,_⟩:=hO33.shape;refine f7f (β:=Span) (n:=2) (cells:=cellS) (bytes:=16) (k:=(x.Seat,x.State)) (x:=x.Span) (xv:=ρ7 33) (L:=e18 (cur.take i)) (V:=V) (bm:=bm) (B:=wA.heap.size) pKey (by kernel_rfl) (by kernel_rfl) (λw=>by kernel_rfl) (by kernel_rfl) (λ_=>rfl) (λ_ u hu=>by unfold cellS at hu;simp only[qO,List.not_mem_nil,or_false]at hu;rcases hu with rfl|rfl<;>rfl) (by decide) (by decide) (λp hp=>by have:=hI.short p hp;have:=hI.le;omega) (by decide) hgi hI.wf hkx (Nat.le_trans hI.ext.size hE7.size) h28 (by rw[hv29];exact hR1 _ _ _ _ hcs) rfl hO33 (λb hb=>?_) (by decide) λρ' w' j1 j2 j3=>?_;.obtain⟨_,_,hb3⟩:=hb33 b ((a95 hsh).1 hb);have hge:w.heap.size<=b:=hb3.elim (λh=>h.elim) id;have hbm:=(qN.1 hI.gi.obj).1;refine⟨by omega,λp hp hpb=>?_⟩;obtain⟨j,hj⟩:=mem_iff_getElem?.1 hp;obtain⟨s0,hs0⟩:=c65 hI.gi.keys hj;have:=((hI.gi.own j _ _ _ hj hs0).lt hpb).2;omega
   .have hgl:e18 (cur.take (i+1))=f7i (e18 (cur.take i)) (x.Seat,x.State) x.Span:=by rw[hg,b6k,if_pos hk4]
    refine fin _ _ _ (λt ht=>?_) ?_ (by rw[hgl];exact j1) (d19 (hI.ext.trans hE7.of_no) j2 λb hb=>hb) (λp hp=>?_) (by rw[hgl];exact e6d hI.short);.simp only[qO,List.not_mem_nil,or_false]at ht;rw[j3 t (by omega) (by omega) (by omega) (by omega)];exact hk7 t (by simp;omega)
    .rw[j3 16 (by decide) (by decide) (by decide) (by decide)];exact hk7 16 (by simp)
    .have hmem:p.1∈V.map (·.1)\/p.1=(x.Seat,x.State):=by
      rcases mem_or_eq_of_mem_set hp with hp|hp
      .unfold c3v at hp;split at hp;.exact .inl (List.mem_map.2 ⟨p,hp,rfl⟩)
       .rcases qK.1 hp with hp|hp;.exact .inl (List.mem_map.2 ⟨p,hp,rfl⟩)
        .simp only[qF]at hp;rw[hp];exact .inr rfl
      .rw[hp];exact .inr rfl
     rcases hmem with h|h;.obtain⟨p',hp',e⟩:=List.mem_map.1 h;rw[<-e];exact hI.wf p' hp'
     .rw[h];exact hkx
  .have hk4:¬x.Kind=4:=by simpa using hk
   have hgl:e18 (cur.take (i+1))=e18 (cur.take i):=by rw[hg,b6k,if_neg hk4]
   exact WP.skipP (by kernel_rfl) (fin V ρ5 w5 (λt ht=>hk5 t (by simp at ht⊢;omega)) (hk5 16 (by simp)) (by rw[hgl];exact hI.gi.exn hE5) (hI.ext.trans hE5.of_no) hI.wf (by rw[hgl];exactλp hp=>Nat.le_succ_of_le (hI.short p hp)))
 .have hge:i=cur.length:=by have:=of_decide_eq_false hfl;have:=hI.le;omega
  subst hge;have hE3:Ext noG w w3:=hR3.ext;refine WP.exitP (id:=0) (by kernel_rfl) (hQ V ρ3 w3 ⟨Nat.le_refl _,λt ht=>?_,?_,?_,hI.gi.exn hE3,hI.ext.trans hE3.of_no,hI.wf,hI.short⟩);.rw[hf3 t (b35 (T:=[0,3,14]) (by kernel_rfl) (by simp;omega))];exact hI.keep t ht
  .rw[hf3 15 (b35 (T:=[15]) (by kernel_rfl) (by simp))];exact hI.len
  .rw[hf3 16 (b35 (T:=[16]) (by kernel_rfl) (by simp))];exact hI.ix
def mkP(r:uQ)(x:Span):Posting:=⟨r.seat,r.state,x⟩
structure I3(wC:World)(ρC:Nat->Go.Value)(vo:Go.Value)(r:uQ)(c:List Span)(out:List Posting)(i:Nat)(ρ:Nat->Go.Value)(w:World):Prop where
 le:i<=c.length
 keep:∀t∈[0,3,8,39,48],ρ t=ρC t
 len:ρ 49=.int .i64 (c.length:Int)ix:ρ 50=.int .i64 (i:Int)own:PL.Own 0 310 4 cellP w (ρ 7) (out++(c.take i).map (mkP r))blk:∀b,(ρ 7).ownBlock=some b->vo.ownBlock=some b\/wC.heap.size<=b
 ext:Ext (λb=>vo.ownBlock=some b) wC w
def mem5{α:Type}{a b c d e:α}{p:α->Prop}(h1:p a)(h2:p b)(h3:p c)(h4:p d)(h5:p e):∀x∈[a,b,c,d,e],p x:=λx hx=>by simp only[qO,List.not_mem_nil,or_false]at hx;rcases hx with rfl|rfl|rfl|rfl|rfl<;>assumption
def h2l{Q:Exit->(Nat->Go.Value)->World->Prop}{wC w:World}{ρC ρ:Nat->Go.Value}{vo:Go.Value}{r:uQ}{c:List Span}{out:List Posting}{b8:Nat}(hT:g5s wC)(hTb:∀b,VV.tb b->vo.ownBlock≠some b)(h48:k9 (SX.Rp (U:=VV) cS) (λb=>vo.ownBlock=some b) wC (ρC 48) c)(h8:ρC 8=.pointer (some ⟨b8,0,none⟩))(hb8:b8<wC.heap.size/\vo.ownBlock≠some b8)(hc8:CA wC ⟨b8,0,none⟩ [.int .i64 r.seat,.int .i64 r.state])(hlen:out.length+c.length<=100000)(h0:I3 wC ρC vo r c out 0 ρ w)(hQ:∀ρ w,I3 wC ρC vo r c out c.length ρ w->Q (.exit 4) ρ w):WP pP 67 (.loop pL3) Q ρ w:=by
 refine WP.loop (λk ρ w=>∃i,k+i=c.length+1/\I3 wC ρC vo r c out i ρ w) (c.length+1) ⟨0,by omega,h0⟩ (λρ w⟨i,hk,h⟩=>by have:=h.le;omega) ?_;rintro k ρ w⟨i,hk,hI⟩;obtain⟨ad,cap,hsh,_⟩:=hI.own.shape;have hhd:∀b,(ρ 7).ownBlock=some b↔hdV (ρ 7)=some b:=λb=>a95 hsh;have hTw:=hT.ext hI.ext hTb;have hold:∀b,b<wC.heap.size->vo.ownBlock≠some b->b<w.heap.size/\hdV (ρ 7)≠some b:=λb h1 h2=>⟨Nat.lt_of_lt_of_le h1 hI.ext.size,λhh=>((hI.blk b ((hhd b).2 hh)).elim h2 (by omega))⟩;have h48w:k9 (SX.Rp (U:=VV) cS) (λb=>¬(b<w.heap.size/\hdV (ρ 7)≠some b)) w (ρC 48) c:=by have h1:k9 (SX.Rp (U:=VV) cS) (λb=>vo.ownBlock=some b\/wC.heap.size<=b) wC (ρC 48) c:=h48.weaken λb hb hg=>hg.elim id (by omega);exact(h1.ext (hI.ext.mono λb hb=>.inl hb)).all (Z:=λb=>b<w.heap.size/\hdV (ρ 7)≠some b) λb hb hg=>⟨hb,λhh=>hg (hI.blk b ((hhd b).2 hh))⟩
 have hc8w:CA w ⟨b8,0,none⟩ [.int .i64 r.seat,.int .i64 r.state]:=hc8.of_block (hI.ext.block b8 hb8.1 hb8.2);have hR:=Rel.fresh1 (U:=VV) (sl:=[(7,.ref 0),(8,.rp (.val cR r)),(48,.list cS c),(49,pI c.length),(50,pI i)]) (nx:=1) (ρ:=ρ) (e:=310) (c:=cP) (l:=out++(c.take i).map (mkP r)) (v:=ρ 7) ⟨hTw.1,λb hb=>(hold b (hT.2 b hb) (hTb b hb))⟩ (c39 hP2 hI.own _ rfl) (λb hb=>(hI.own.lt ((hhd b).2 hb)).2) (b96 (mem5 ⟨rfl,rfl,by rw[show ρ 7=_ from hsh];rfl⟩ ⟨⟨b8,0,none⟩,_,by rw[hI.keep 8 (by simp),h8],Nat.lt_of_lt_of_le hb8.1 hI.ext.size,λhn=>hn (hold b8 hb8.1 hb8.2),hc8w,hR2 _ _ _⟩ (by rw[hI.keep 48 (by simp)];exact h48w) hI.len hI.ix));refine WP.seqP (by kernel_rfl) (WP.fragP uok pOk (by kernel_rfl) (eq3 r c _ c.length i) hR λσ3 Z3 π3 ρ3 w3 hK3 hR3 hf3=>?_);obtain⟨h51,hrest⟩:=Prod.mk.inj (qH hK3);obtain⟨hr7,hrest⟩:=Prod.mk.inj hrest;have hs51:=hR3.slot 51;rw[h51]at hs51;refine WP.seqP (by kernel_rfl) (WP.condP (t:=51) (by kernel_rfl) hs51 (λht=>?_) λhfl=>?_)
 .have hlt:i<c.length:=by have:=of_decide_eq_true ht;omega
  obtain⟨x,hx⟩:∃x,c[i]?=some x:=⟨_,qG hlt⟩;have hget:c7 c (i:Int)=some x:=by unfold c7;rw[if_pos (Int.natCast_nonneg i),Int.toNat_natCast];exact hx
  have happ:a4n 32 (out++(c.take i).map (mkP r)) [⟨r.seat,r.state,x⟩]=some (out++(c.take (i+1)).map (mkP r)):=by unfold a4n;rw[if_pos (by simp;omega),take_add_one,hx,Option.toList_some,List.map_append,qQ];rfl
  rw[hget]at hrest;have hrest:_=Option.bind (a4n 32 (out++(c.take i).map (mkP r)) [⟨r.seat,r.state,x⟩]) _:=hrest;rw[happ]at hrest;refine WP.skipP (by kernel_rfl) ?_;refine WP.seqP (by kernel_rfl) (WP.blockP (id:=5) (by kernel_rfl) (WP.seqP (by kernel_rfl) (WP.fragP uok pOk (by kernel_rfl) hrest hR3 λσ4 Z4 π4 ρ4 w4 hK4 hR4 hf4=>?_)));refine WP.fragP uok pOk (by kernel_rfl) hK4 hR4 λσ5 Z5 π5 ρ5 w5 hK5 hR5 hf5=>?_;obtain⟨hm7,hb7⟩:=hR5.refM (qH hK5);have hE5:Ext (λb=>hdV (ρ 7)=some b) w w5:=hR5.ext;have hO5:PL.Own 0 310 4 cellP w5 (ρ5 7) (out++(c.take (i+1)).map (mkP r)):=b9b (X:=cx Z5 π5 σ5 w5) hP1 hm7;obtain⟨ad5,cap5,hsh5,_⟩:=hO5.shape;have hEC:Ext (λb=>vo.ownBlock=some b) wC w5:=d19 hI.ext hE5 λb hb=>hI.blk b ((hhd b).2 hb);have hk5:∀t∈[0,3,8,39,48,49,50],ρ5 t=ρ t:=λt ht=>by rw[hf5 t (b35 (T:=[0,3,8,39,48,49,50]) (by kernel_rfl) ht),hf4 t (b35 (T:=[0,3,8,39,48,49,50]) (by kernel_rfl) ht),hf3 t (b35 (T:=[0,3,8,39,48,49,50]) (by kernel_rfl) ht)]
  show WP pP 67 (cB (cB (cB pL3))) _ ρ5 w5;have hR':=Rel.fresh (U:=VV) (sl:=[(50,pI i)]) (nx:=0) (ρ:=ρ5) (hT.ext hEC hTb) (b96 (h21 (by rw[hk5 50 (by simp)];exact hI.ix)));refine WP.fragP uok pOk (by kernel_rfl) (eq17 i) hR' λσ8 Z8 π8 ρ8 w8 hK8 hR8 hf8=>?_;have hE8:Ext noG w5 w8:=hR8.ext;have h16:=hR8.slot 50;rw[qH hK8]at h16;have h7:ρ8 7=ρ5 7:=hf8 7 (b35 (T:=[7]) (by kernel_rfl) (by simp));refine⟨i+1,by omega,hlt,λt ht=>?_,?_,?_,by rw[h7];exact hO5.exn hE8,λb hb=>?_,hEC.trans hE8.of_no⟩;.rw[hf8 t (b35 (T:=[0,3,8,39,48]) (by kernel_rfl) ht),hk5 t (by simp at ht⊢;omega)];exact hI.keep t ht
  .rw[hf8 49 (b35 (T:=[49]) (by kernel_rfl) (by simp)),hk5 49 (by simp)];exact hI.len
  .rw[show ρ8 50=.int .i64 (i64 ((i:Int)+1))from h16,d7o (by omega) (by omega)];rfl
  .rw[h7]at hb;obtain⟨_,_,h⟩:=hb7 b ((a95 hsh5).1 hb);rcases h with h|h;.exact hI.blk b ((hhd b).2 h)
   .exact .inr (Nat.le_trans hI.ext.size h)
 .have hge:i=c.length:=by have:=of_decide_eq_false hfl;have:=hI.le;omega
  subst hge;have hE3:Ext (λb=>hdV (ρ 7)=some b) w w3:=hR3.ext;obtain⟨hm7,hb7⟩:=hR3.refM hr7;have hO3:PL.Own 0 310 4 cellP w3 (ρ3 7) (out++(c.take c.length).map (mkP r)):=b9b (X:=cx Z3 π3 σ3 w3) hP1 hm7;obtain⟨ad3,cap3,hsh3,_⟩:=hO3.shape;refine WP.exitP (id:=4) (by kernel_rfl) (hQ ρ3 w3 ⟨Nat.le_refl _,λt ht=>?_,?_,?_,hO3,λb hb=>?_,d19 hI.ext hE3 λb hb=>hI.blk b ((hhd b).2 hb)⟩);.rw[hf3 t (b35 (T:=[0,3,8,39,48]) (by kernel_rfl) ht)];exact hI.keep t ht
  .rw[hf3 49 (b35 (T:=[49]) (by kernel_rfl) (by simp))];exact hI.len
  .rw[hf3 50 (b35 (T:=[50]) (by kernel_rfl) (by simp))];exact hI.ix
  .obtain⟨_,_,h⟩:=hb7 b ((a95 hsh3).1 hb);rcases h with h|h;.exact hI.blk b ((hhd b).2 h)
   .exact .inr (Nat.le_trans hI.ext.size h)
def d7s{α:Type}:∀(L pre:List α),(List.range' pre.length L.length).filterMap (λj=>(pre++L)[j]?)=L
 |[],pre=>rfl|x::L,pre=>by
   rw[qR,List.range'_succ,List.filterMap_cons];have h0:(pre++x::L)[pre.length]?=some x:=by simp
   rw[h0];have:=d7s L (pre++[x]);rw[qL,length_singleton,qQ]at this;simp only[singleton_append]at this;rw[this]
def d6j{α:Type}(L:List α){t:List Nat}(hn:t.Nodup)(hlt:∀j∈t,j<L.length):∃rest:List Nat,((t++rest).filterMap λj=>L[j]?).Perm L/\(rest=[]\/∃j,j<L.length/\j∉t):=by
 refine⟨(List.range L.length).filter λj=>!t.contains j,?_,?_⟩
 .have hp:(t++(List.range L.length).filter λj=>!t.contains j).Perm (List.range L.length):=by
   refine(perm_ext_iff_of_nodup ?_ nodup_range).2 λa=>?_;.refine List.nodup_append.2 ⟨hn,List.nodup_range.filter _,λa ha b hb e=>?_⟩;subst e;have:=(List.mem_filter.1 hb).2;simp[ha]at this
   .simp only[qK,mem_filter,mem_range,Bool.not_eq_true',contains_eq_mem,decide_eq_false_iff_not];exact⟨λh=>h.elim (hlt a) λh=>h.1,λh=>(Classical.em (a∈t)).imp id λhh=>⟨h,hh⟩⟩
  have h3:(List.range L.length).filterMap (λj=>L[j]?)=L:=by rw[List.range_eq_range'];exact d7s L []
  exact(hp.filterMap λj=>L[j]?).trans (by rw[h3])
 .cases hr:(List.range L.length).filter λj=>!t.contains j with|nil=>exact .inl rfl|cons a r=>
    have ha:a∈(List.range L.length).filter λj=>!t.contains j:=by rw[hr];exact qI
    obtain⟨h1,h2⟩:=List.mem_filter.1 ha;exact .inr ⟨a,List.mem_range.1 h1,by simpa using h2⟩
def c3b(l:List aQ)(q:(Int×Int)×List Span)(M:List ((Int×Int)×List Span))(o:List Posting):b4v l (q::M) o=Option.bind (a2i l) λs=>Option.bind (s6 q.2 s) λc=>if o.length+c.length<=100000then b4v l M (o++c.map (mkP ⟨q.1.1,q.1.2⟩))else none:=rfl
def c28(l:List aQ):∀(A B:List ((Int×Int)×List Span))(o:List Posting),b4v l (A++B) o=Option.bind (b4v l A o) λo=>b4v l B o|[],B,o=>rfl|q::A,B,o=>by rw[List.cons_append,c3b,c3b];cases a2i l with|none=>rfl|some s=>show(Option.bind (s6 q.2 s) _)=Option.bind (Option.bind (s6 q.2 s) _) _;cases s6 q.2 s with|none=>rfl|some c=>
       show(if _ then b4v l (A++B) _ else none)=Option.bind (if _ then b4v l A _ else none) _;split;.exact c28 l A B _
       .rfl
def e5h{l:List aQ}{q:(Int×Int)×List Span}{o o':List Posting}(h:b4v l [q] o=some o'):∃s c,a2i l=some s/\s6 q.2 s=some c/\o.length+c.length<=100000/\o'=o++c.map (mkP ⟨q.1.1,q.1.2⟩):=by
 rw[c3b]at h;obtain⟨s,hs,h⟩:=qP.1 h;obtain⟨c,hc,h⟩:=qP.1 h;split at h;.rename_i hl;exact⟨s,c,hs,hc,hl,(qH h).symm⟩
 .cases h
abbrev fmL(L:List ((Int×Int)×List Span))(s:List Nat):List ((Int×Int)×List Span):=s.filterMap λj=>L[j]?
structure I2(wB:World)(ρB:Nat->Go.Value)(bm bi:Nat)(V:ML)(L:List ((Int×Int)×List Span))(l:List aQ)(s:List Nat)(out:List Posting)(ρ:Nat->Go.Value)(w:World):Prop where
 keep:∀t∈[0,3,39],ρ t=ρB t
 iter:w.heap[bi]?=some (itV bm V.length s)nd:s.Nodup
 lt:∀j∈s,j<V.length
 res:b4v l (fmL L s) []=some out
 own:PL.Own 0 310 4 cellP w (ρ 7) out
 blk:∀b,(ρ 7).ownBlock=some b->wB.heap.size<=b
 ext:Ext (λb=>b=bi) wB w
def h2c{Q:Exit->(Nat->Go.Value)->World->Prop}{wB w:World}{ρB ρ:Nat->Go.Value}{bm bi B:Nat}{V:ML}{L:List ((Int×Int)×List Span)}{l:List aQ}(hT:g5s wB)(hTb:∀b,VV.tb b->b≠bi)(hG:GI bm B wB V L)(hmi:bm≠bi)(hbi:bi<wB.heap.size)(hBi:B<=bi)(hVi:∀p∈V,p.2.ownBlock≠some bi)(h39:ρB 39=.pointer (some ⟨bi,0,none⟩))(h0l:k9 (SX.Rp (U:=VV) cF) (λb=>b=bi) wB (ρB 0) l)(hall:∀M:List ((Int×Int)×List Span),M.Perm L->∃o,b4v l M []=some o)(h0:I2 wB ρB bm bi V L l [] [] ρ w)(hQ:∀s out ρ w,I2 wB ρB bm bi V L l s out ρ w->(fmL L s).Perm L->Q (.exit 2) ρ w):WP pP 67 (.loop pL2) Q ρ w:=by
 refine WP.loop (λk ρ w=>∃s out,k+s.length=V.length+1/\s.length<=V.length/\I2 wB ρB bm bi V L l s out ρ w) (V.length+1) ⟨[],[],rfl,Nat.zero_le _,h0⟩ (λρ w⟨s,out,hk,hl,h⟩=>by omega) ?_;rintro k ρ w⟨s,out,hk,hsl,hI⟩;have hVL:=c7m hG.keys;have hobj:w.heap[bm]?=some (c00 V):=(hI.ext.block bm (qN.1 hG.obj).1 hmi).trans hG.obj;refine WP.seqP (by kernel_rfl) (WP.regP (by kernel_rfl) ?_);rcases f3h (P:=pP) (ty:=0) hI.iter hobj with⟨hdone,hrun⟩|⟨j,q,v,wd,hj,hjs,⟨hwd,hEd⟩,hrun⟩
 .refine show c7o pP [⟨some 40,.next (.tmp 39) false,_,_,_,none⟩,⟨some 41,.extract (.tmp 40) 0,_,_,_,none⟩] _ ρ w from⟨rfl,a0k.val (v:=.tuple #[.bool false]) (w':=w) (by simp[execOp,ev,hI.keep 39 (by simp),h39,hrun,Result.andThen]) ⟨rfl,a0k.val (v:=.bool false) (w':=w) (by simp[execOp,ev,b20,upd,Instr.extract,Result.andThen]) ?_⟩⟩;refine WP.seqP (by kernel_rfl) (WP.condP (t:=41) (b:=false) (by kernel_rfl) rfl (λh=>by cases h) λ_=>?_);refine WP.exitP (id:=2) (by kernel_rfl) (hQ s out _ w ⟨λt ht=>?_,hI.iter,hI.nd,hI.lt,hI.res,hI.own,hI.blk,hI.ext⟩ ?_);.rw[<-hI.keep t ht];simp only[qO,List.not_mem_nil,or_false]at ht;show upd (upd ρ 40 _) 41 _ t=ρ t;rw[c1l _ _ (by omega),c1l _ _ (by omega)]
  .obtain⟨rest,hp,hr⟩:=d6j L hI.nd λj hj=>by rw[<-hVL];exact hI.lt j hj
   rcases hr with hr|⟨j,h1,h2⟩;.subst hr;rwa[List.append_nil]at hp
   .exact absurd (hdone j (by rw[hVL];exact h1)) h2
 .obtain⟨d,hd⟩:=c65 hG.keys hj;have hjV:=(qD.1 hj).1;have hbw:bi<w.heap.size:=(qN.1 hI.iter).1;generalize hw1:({wd with heap:=wd.heap.setIfInBounds bi (itV bm V.length (s++[j]))}:World)=w1 at hrun;have hE1:Ext (λb=>b=bi) w w1:=by rw[<-hw1];exact⟨hEd.os,hEd.tape,hEd.output,by simp[hwd],λi hi hg=>by have:bi≠i:=λe=>hg e.symm;simp[hwd,this]⟩
  have hit1:w1.heap[bi]?=some (itV bm V.length (s++[j])):=by rw[<-hw1];simp[hwd,hbw]
  have hEB1:Ext (λb=>b=bi) wB w1:=hI.ext.trans hE1;have hobj1:w1.heap[bm]?=some (c00 V):=(hE1.block bm (qN.1 hobj).1 hmi).trans hobj;have hent:=f0x (P:=pP) hit1 hobj1 hj;refine show c7o pP [⟨some 40,.next (.tmp 39) false,_,_,_,none⟩,⟨some 41,.extract (.tmp 40) 0,_,_,_,none⟩] _ ρ w from⟨rfl,a0k.val (v:=.tuple #[.bool true,kvv q,v]) (w':=w1) (by simp[execOp,ev,hI.keep 39 (by simp),h39,hrun,Result.andThen]) ⟨rfl,a0k.val (v:=.bool true) (w':=w1) (by simp[execOp,ev,b20,upd,Instr.extract,Result.andThen]) ?_⟩⟩;refine WP.seqP (by kernel_rfl) (WP.condP (t:=41) (b:=true) (by kernel_rfl) rfl (λ_=>?_) λh=>by cases h);refine WP.skipP (by kernel_rfl) (WP.blockP (id:=3) (by kernel_rfl) (WP.seqP (by kernel_rfl) (WP.regP (by kernel_rfl) ?_)));rw[show c5o (cA (cK (cB (cB pL2))))=(c5o (cA pM2)).take 3++(c5o (cA pM2)).drop 3by kernel_rfl];generalize hρ1:b20 (b20 ρ (some 40) (.tuple #[.bool true,kvv q,v])) (some 41) (.bool true)=ρ1;have hk1:∀t∈[0,3,7,39],ρ1 t=ρ t:=λt ht=>by rw[<-hρ1];simp only[qO,List.not_mem_nil,or_false]at ht;show upd (upd ρ 40 _) 41 _ t=ρ t;rw[c1l _ _ (by omega),c1l _ _ (by omega)]
  refine c7o.append (show c7o pP [⟨some 42,.entry (.tmp 39),_,_,_,none⟩,⟨some 43,.extract (.tmp 42) 0,_,_,_,none⟩,⟨some 44,.extract (.tmp 42) 1,_,_,_,none⟩] _ ρ1 w1 from⟨rfl,a0k.val (v:=.tuple #[kvv q,v]) (w':=w1) (by simp[execOp,ev,hk1 39 (by simp),hI.keep 39 (by simp),h39,hent,Result.andThen]) ⟨rfl,a0k.val (v:=kvv q) (w':=w1) (by simp[execOp,ev,b20,upd,Instr.extract,Result.andThen]) ⟨rfl,a0k.val (v:=v) (w':=w1) (by simp[execOp,ev,b20,upd,Instr.extract,Result.andThen]) ?_⟩⟩⟩);generalize hρ2:b20 (b20 (b20 ρ1 (some 42) (.tuple #[kvv q,v])) (some 43) (kvv q)) (some 44) v=ρ2;have hk2:∀t∈[0,3,7,39],ρ2 t=ρ t:=λt ht=>by rw[<-hρ2,<-hk1 t ht];simp only[qO,List.not_mem_nil,or_false]at ht;show upd (upd (upd ρ1 42 _) 43 _) 44 _ t=ρ1 t;rw[c1l _ _ (by omega),c1l _ _ (by omega),c1l _ _ (by omega)]
  have h43:ρ2 43=kvv q:=by rw[<-hρ2];rfl
  have h44:ρ2 44=v:=by rw[<-hρ2];rfl
  have hnd':(s++[j]).Nodup:=List.nodup_append.2 ⟨hI.nd,by simp,λa ha b hb e=>by simp only[qF]at hb;subst hb;subst e;exact hjs ha⟩;have hlt':∀i∈s++[j],i<V.length:=λi hi=>(qK.1 hi).elim (hI.lt i) λh=>by simp only[qF]at h;rw[h];exact hjV
  have hfm:fmL L (s++[j])=fmL L s++[(q,d)]:=by unfold fmL;rw[filterMap_append];simp[hd]
  obtain⟨rest,hp,_⟩:=d6j L hnd' λi hi=>by rw[<-hVL];exact hlt' i hi
  obtain⟨o,ho⟩:=hall _ hp;rw[filterMap_append,show(s++[j]).filterMap (λj=>L[j]?)=fmL L s++[(q,d)]from hfm,c28,c28,hI.res]at ho;obtain⟨out',ho',_⟩:=qP.1 ho;have ho':b4v l [(q,d)] out=some out':=ho';obtain⟨sp,c,hsp,hc,hlen,hout'⟩:=e5h ho';have heq:=eq12 l ⟨q.1,q.2⟩ d;rw[hsp]at heq;have heq:_=Option.bind (s6 d sp) _:=heq;rw[hc]at heq;have hTw1:=hT.ext hEB1 hTb;have hOv:=(hG.own j q v d hj hd).ext hEB1 λb hb hg=>hVi _ (qE hj) (by rw[hb,hg]);obtain⟨adv,capv,hshv,_⟩:=hOv.shape;have h44r:k9 (SX.Rp (U:=VV) cS) (λb=>¬b<w1.heap.size) w1 (ρ2 44) d:=by rw[h44];exact c0x (Z':=λb=>b<w1.heap.size) (X:=⟨λ_=>False,λ_=>undef,λ_=>False,w1⟩) (c39 hS2 hOv _ rfl) (λb hb=>hb.elim) λb hb=>(hOv.lt hb).2
  have h0r:k9 (SX.Rp (U:=VV) cF) (λb=>¬b<w1.heap.size) w1 (ρ2 0) l:=by rw[hk2 0 (by simp),hI.keep 0 (by simp)];exact(h0l.ext hEB1).all (Z:=λb=>b<w1.heap.size) λb hb _=>hb
  have hR:=Rel.fresh (U:=VV) (sl:=[(0,lF l),(43,.val cR ⟨q.1,q.2⟩),(44,.list cS d)]) (nx:=0) (ρ:=ρ2) hTw1 (b96 (mem3 h0r ⟨[.int .i64 q.1,.int .i64 q.2],h43,hR2 _ _ ⟨q.1,q.2⟩⟩ h44r));refine(c01 uok pOk _ 0 _ _ _ _ _ _ _ heq hR).mono ?_;rintro ρ3 w3⟨⟨σ3,Z3,π3,hK3,hR3⟩,hf3⟩;refine WP.seqP (by kernel_rfl) (WP.fragP uok pOk (by kernel_rfl) hK3 hR3 λσ4 Z4 π4 ρ4 w4 hK4 hR4 hf4=>?_);have hK4:=qH hK4;obtain⟨hm8,hb8⟩:=hR4.refM (Prod.mk.inj hK4).1;obtain⟨hm48,hb48⟩:=hR4.refM (Prod.mk.inj (Prod.mk.inj hK4).2).1;have h49:=hR4.slot 49;rw[(Prod.mk.inj (Prod.mk.inj (Prod.mk.inj hK4).2).2).1]at h49;have h50:=hR4.slot 50;rw[(Prod.mk.inj (Prod.mk.inj (Prod.mk.inj hK4).2).2).2]at h50;have hE4:Ext noG w1 w4:=hR4.ext;have hk4:∀t∈[0,3,7,39],ρ4 t=ρ t:=λt ht=>by rw[hf4 t (b35 (T:=[0,3,7,39]) (by kernel_rfl) ht),hf3 t (b35 (T:=[0,3,7,39]) (by kernel_rfl) ht),hk2 t ht]
  have hO4:PL.Own 0 310 4 cellP w4 (ρ4 7) out:=by rw[hk4 7 (by simp)];exact(hI.own.ext hE1 λb hb hg=>by have:=hI.blk b hb;omega).exn hE4
  obtain⟨ad4,cap4,hsh4,_⟩:=hO4.shape;have hvo:∀b,(ρ4 7).ownBlock=some b->wB.heap.size<=b/\b<w1.heap.size:=λb hb=>by rw[hk4 7 (by simp)]at hb;exact⟨hI.blk b hb,Nat.lt_of_lt_of_le (hI.own.lt hb).2 hE1.size⟩
  have new:∀{b:Nat},(noG b\/w1.heap.size<=b)->w1.heap.size<=b:=λh=>h.elim (λh=>h.elim) id;obtain⟨b8,u8,hv8,hM8,ha8⟩:=hm8;obtain⟨cs8,hu8,hr8⟩:=ha8;have hcs8:u8.cells.toList=[.int .i64 q.1,.int .i64 q.2]:=by have:=hR1 _ _ _ _ hr8;rw[hu8,this];rfl
  rw[hcs8]at hM8;have hb8':=hb8 b8 (show hdV (ρ4 8)=some b8 by rw[hv8];rfl);have hO48:PL.Own 0 35 2 cellS w4 (ρ4 48) c:=b9b (X:=cx Z4 π4 σ4 w4) hS1 hm48;obtain⟨ad48,cap48,hsh48,_⟩:=hO48.shape;have h48r:k9 (SX.Rp (U:=VV) cS) (λb=>(ρ4 7).ownBlock=some b) w4 (ρ4 48) c:=by have h2:=c0x (U:=VV) (c:=cS) (l:=c) (e:=35) (u:=ρ4 48) (X:=⟨λ_=>False,π4,b7a σ4,w4⟩) (Z':=λb=>w1.heap.size<=b) (c39 (cells:=cellS) hS2 hO48 _ rfl) (λb hb=>hb.elim) λb hb=>new (hb48 b ((a95 hsh48).1 hb)).2.2;exact h2.weaken λb _ hg hn=>by have:=(hvo b hg).2;omega
  refine WP.blockP (id:=4) (by kernel_rfl) (WP.loopP (by kernel_rfl) (h2l (wC:=w4) (ρC:=ρ4) (vo:=ρ4 7) (r:=⟨q.1,q.2⟩) (c:=c) (out:=out) (b8:=b8) (hTw1.ext hE4 λ_ _ h=>h) (λb hb hh=>by have:=(hvo b hh).1;have:=hT.2 b hb;omega) h48r hv8 ⟨hb8'.2.1,λhh=>by have:=(hvo b8 hh).2;have:=new hb8'.2.2;omega⟩ hM8.ca hlen ⟨Nat.zero_le _,λ_ _=>rfl,h49,h50,by simpa using hO4,λb hb=>.inl hb,Ext.refl _ _⟩ λρ5 w5 h5=>?_));have hown5:=h5.own;rw[List.take_length]at hown5;have hE4B:Ext (λb=>b=bi) wB w4:=hEB1.trans hE4.of_no;refine⟨s++[j],out',by simp;omega,?_,λt ht=>?_,?_,hnd',hlt',?_,by rw[hout'];exact hown5,λb hb=>?_,d19 hE4B h5.ext λb hb=>.inr (hvo b hb).1⟩;.have h1:=List.Nodup.length_le_of_subset hnd' (λi hi=>List.mem_range.2 (hlt' i hi):∀i∈s++[j],i∈List.range V.length);simpa using h1
  .rw[h5.keep t (by simp at ht⊢;omega),hk4 t (by simp at ht⊢;omega)];exact hI.keep t ht
  .exact(h5.ext.block bi (Nat.lt_of_lt_of_le hbi hE4B.size) λhh=>by have:=(hvo bi hh).1;omega).trans ((hE4.block bi (qN.1 hit1).1 λh=>h).trans hit1)
  .rw[hfm,c28,hI.res];exact ho'
  .rcases h5.blk b hb with h|h;.exact(hvo b h).1
   .exact Nat.le_trans hE4B.size h
def e87{l:List aQ}{r:List Posting}{w0:World}{u:Go.Value}(hT:g5s w0)(hu:k9 (SX.Rp (U:=VV) cF) noG w0 u l)(hr:competence_Postings l=some r):Calls pP 164 [u].toArray w0 λe w'=>∃v,e=.returned v/\Ext noG w0 w'/\PL.Own 0 310 4 cellP w' v r/\∀b,v.ownBlock=some b->w0.heap.size<=b:=by
 unfold competence_Postings at hr;obtain⟨cur,hcur,hr⟩:=qP.1 hr;split at hr;case isFalse=>cases hr
 rename_i hcond;have hsort:∀M:List ((Int×Int)×List Span),M.Perm (e18 cur)->∃o,b4v l M []=some o/\c9 o=some r:=λM hM=>by have:=e8s hr hM;exact qP.1 this
 refine Calls.of_WP (n:=67) (fn:=pF) (c:=pC) (by kernel_rfl) (by kernel_rfl) (by kernel_rfl) (by simp) ?_;have h0:k9 (SX.Rp (U:=VV) cF) (λb=>¬b<w0.heap.size) w0 u l:=hu.all (Z:=λb=>b<w0.heap.size) λb hb _=>hb;have hR:=Rel.fresh (U:=VV) (sl:=[(0,lF l)]) (nx:=0) (ρ:=λt=>[u].getD t undef) hT (b96 (h21 h0));have heq:=eqA l;rw[hcur]at heq;refine WP.seqP (by kernel_rfl) (WP.fragP uok pOk (by kernel_rfl) heq hR λσ1 Z1 π1 ρ1 w1 hK1 hR1 hf1=>?_);refine WP.seqP (by kernel_rfl) (WP.fragP uok pOk (by kernel_rfl) hK1 hR1 λσ2 Z2 π2 ρ2 w2 hK2 hR2 hf2=>?_);refine WP.seqP (by kernel_rfl) (WP.seqP (by kernel_rfl) (WP.fragP uok pOk (by kernel_rfl) hK2 hR2 λσA ZA πA ρA wA hKA hRA hfA=>?_));have hKA:=qH hKA;have h3:=(Prod.mk.inj hKA).1;have h14:=(Prod.mk.inj (Prod.mk.inj hKA).2).1;have h15:=hRA.slot 15;rw[(Prod.mk.inj (Prod.mk.inj (Prod.mk.inj hKA).2).2).1]at h15;have h16:=hRA.slot 16;rw[(Prod.mk.inj (Prod.mk.inj (Prod.mk.inj hKA).2).2).2]at h16;have hEA:Ext noG w0 wA:=hRA.ext;have hA0:ρA 0=u:=by rw[hfA 0 (b35 (T:=[0]) (by kernel_rfl) (by simp)),hf2 0 (b35 (T:=[0]) (by kernel_rfl) (by simp)),hf1 0 (b35 (T:=[0]) (by kernel_rfl) (by simp))];rfl
 obtain⟨hm3,hb3⟩:=hRA.refM h3;obtain⟨hm14,hb14⟩:=hRA.refM h14;obtain⟨bm,hv3,_,hobj⟩:=hm3;obtain⟨hz3,hlt3,hge3⟩:=hb3 bm (show hdV (ρA 3)=some bm by rw[hv3];rfl);have hge3:w0.heap.size<=bm:=hge3.elim (λh=>h.elim) id;obtain⟨_,hO14,_⟩:=id hm14;obtain⟨ad14,cap14,hsh14,_⟩:=hO14.shape;have hne14:∀b,(ρA 14).ownBlock=some b->b≠bm:=by
  intro b hb e;subst e;obtain⟨i3,s3,m3⟩:=c94 h3;obtain⟨i14,s14,m14⟩:=c94 h14;have e3:=hRA.slot 3;rw[s3]at e3;have e14:=hRA.slot 14;rw[s14]at e14;refine hRA.dist i3 i14 b (λe=>by rw[e,m14]at m3;cases m3) ?_ ?_;.rw[m3,<-show ρA 3=πA i3 from e3.2.1];show hdV (ρA 3)=some b;rw[hv3];rfl
  .rw[m14,<-show ρA 14=πA i14 from e14.2.1];exact(a95 hsh14).1 hb
 have h14r:k9 (SX.Rp (U:=VV) cF) (λb=>b=bm) wA (ρA 14) cur:=by have:=c0x (U:=VV) (c:=cF) (l:=cur) (u:=ρA 14) (X:=cx ZA πA σA wA) (Z':=λb=>b≠bm) hm14 (λb hb e=>by subst e;exact hz3 hb) hne14;exact this.weaken λb _ hb hn=>hn hb
 have hTA:=hT.ext hEA λ_ _ h=>h;have hTb:∀b,VV.tb b->b≠bm:=λb hb e=>by have:=hT.2 b hb;omega
 refine WP.blockP (id:=0) (by kernel_rfl) (WP.loopP (by kernel_rfl) (h3h (wA:=wA) (ρA:=ρA) (bm:=bm) (cur:=cur) hTA hTb hv3 h14r hcond.1 hcond.2 ⟨Nat.zero_le _,λ_ _=>rfl,h15,h16,⟨hobj,rfl,List.nodup_nil,(λj q v s h=>by simp at h),(λi j qi vi qj vj b _ h=>by simp at h),hlt3⟩,Ext.refl _ _,(λp hp=>by cases hp),(λp hp=>by cases hp)⟩ λV ρ w hI=>?_));show WP pP 67 (cB (cB (cB pC))) _ ρ w;have hgi:GI bm wA.heap.size w V (e18 cur):=by have:=hI.gi;rwa[List.take_length]at this
 have hTw:=hTA.ext hI.ext hTb;have hE0:Ext (λb=>w0.heap.size<=b) w0 w:=hEA.of_no.trans (hI.ext.mono λb hb=>by omega);refine WP.seqP (by kernel_rfl) (WP.fragP uok pOk (by kernel_rfl) eq9 (Rel.fresh (U:=VV) (sl:=[]) (nx:=0) (ρ:=ρ) hTw λt=>trivial) λσ9 Z9 π9 ρ9 w9 hK9 hR9 hf9=>?_);have h7:=hR9.slot 7;rw[qH hK9]at h7;have hE9:Ext noG w w9:=hR9.ext;have hgi9:=hgi.exn hE9;have h93:ρ9 3=.map (some bm):=by rw[hf9 3 (b35 (T:=[3]) (by kernel_rfl) (by simp)),hI.keep 3 (by omega),hv3]
 have h90:ρ9 0=u:=by rw[hf9 0 (b35 (T:=[0]) (by kernel_rfl) (by simp)),hI.keep 0 (by omega),hA0]
 refine WP.seqP (by kernel_rfl) (WP.seqP (by kernel_rfl) (WP.regP (by kernel_rfl) ?_));have hrange:=f08 (P:=pP) (t:=304) (k:=306) (e:=307) (by kernel_rfl) hgi9.obj;refine show c7o pP [⟨some 38,.move (.tmp 3),_,_,_,none⟩,⟨some 39,.range 304 (.tmp 38),_,_,_,none⟩] _ ρ9 w9 from⟨rfl,a0k.val (v:=.map (some bm)) (w':=w9) (by simp[execOp,ev,h93]) ⟨rfl,a0k.val (v:=.pointer (some ⟨w9.heap.size,0,none⟩)) (w':=w9.alloc (itV bm V.length [])) (by simp[execOp,ev,b20,upd,hrange,Result.andThen]) ?_⟩⟩;generalize hρB:b20 (b20 ρ9 (some 38) (.map (some bm))) (some 39) (.pointer (some ⟨w9.heap.size,0,none⟩))=ρB;have hkB:∀t∈[0,3,7],ρB t=ρ9 t:=λt ht=>by rw[<-hρB];simp only[qO,List.not_mem_nil,or_false]at ht;show upd (upd ρ9 38 _) 39 _ t=ρ9 t;rw[c1l _ _ (by omega),c1l _ _ (by omega)]
 have h39:ρB 39=.pointer (some ⟨w9.heap.size,0,none⟩):=by rw[<-hρB];rfl
 have hEal:Ext noG w9 (w9.alloc (itV bm V.length [])):=Ext.alloc _ _ _;have hEB:Ext (λb=>w0.heap.size<=b) w0 (w9.alloc (itV bm V.length [])):=(hE0.trans hE9.of_no).trans hEal.of_no;have hitB:(w9.alloc (itV bm V.length [])).heap[w9.heap.size]?=some (itV bm V.length []):=World.alloc_heap_new w9 _;have hTB:=(hTw.ext hE9 λ_ _ h=>h).ext hEal λ_ _ h=>h;have hbm9:=(qN.1 hgi9.obj).1;have hbB:=(qN.1 hitB).1;generalize hwB:w9.alloc (itV bm V.length [])=wB at*;have h0l:k9 (SX.Rp (U:=VV) cF) (λb=>b=w9.heap.size) wB (ρB 0) l:=by
  rw[hkB 0 (by simp),h90];have h1:k9 (SX.Rp (U:=VV) cF) (λb=>w0.heap.size<=b) w0 u l:=hu.weaken λb hb hg=>by omega
  exact(h1.ext hEB).weaken λb _ hb=>by rw[hb];exact Nat.le_trans hE0.size hE9.size
 refine WP.blockP (id:=2) (by kernel_rfl) (WP.loopP (by kernel_rfl) (h2c (wB:=wB) (ρB:=ρB) (bm:=bm) (bi:=w9.heap.size) (B:=wA.heap.size) (V:=V) (L:=e18 cur) (l:=l) hTB (λb hb e=>by have h1:=hTw.2 b hb;have:=hE9.size;omega) (hgi9.exn hEal) (by omega) (by omega) (Nat.le_trans hI.ext.size hE9.size) (λp hp hpb=>?_) h39 h0l (λM hM=>(hsort M hM).imp λ_ h=>h.1) ⟨λ_ _=>rfl,hitB,List.nodup_nil,(λj h=>by cases h),rfl,?_,?_,Ext.refl _ _⟩ λs out ρ3 w3 h3 hperm=>?_));.obtain⟨j,hj⟩:=mem_iff_getElem?.1 hp;obtain⟨d,hd⟩:=c65 hgi9.keys hj;have:=((hgi9.own j _ _ _ hj hd).lt hpb).2;omega
 .rw[hkB 7 (by simp),show ρ9 7=.slice none 0 0from h7];exact .inl ⟨rfl,rfl⟩
 .intro b hb;rw[hkB 7 (by simp),show ρ9 7=.slice none 0 0from h7]at hb;cases hb
 show WP pP 67 (cB (cB (cB (cB (cB pC))))) _ ρ3 w3;obtain⟨o,ho,hso⟩:=hsort _ hperm;obtain rfl:out=o:=qH (h3.res.symm.trans ho);obtain⟨ad3,cap3,hsh3,_⟩:=h3.own.shape;have hhd:∀b,(ρ3 7).ownBlock=some b↔hdV (ρ3 7)=some b:=λb=>a95 hsh3;have hE3:Ext (λb=>w0.heap.size<=b) w0 w3:=hEB.trans (h3.ext.mono λb hb=>by rw[hb];exact Nat.le_trans hE0.size hE9.size);have hB0:w0.heap.size<=wB.heap.size:=hEB.size;have hT3:=hT.ext hE3 λb hb h=>by have:=hT.2 b hb;omega
 have heq:=eq18 out;rw[hso]at heq;have hRf:=Rel.fresh1 (U:=VV) (sl:=[(7,.ref 0)]) (nx:=1) (ρ:=ρ3) (e:=310) (c:=cP) (l:=out) (v:=ρ3 7) ⟨hT3.1,λb hb=>⟨hT3.2 b hb,λhh=>by have:=h3.blk b ((hhd b).2 hh);have:=hT.2 b hb;omega⟩⟩ (c39 hP2 h3.own _ rfl) (λb hb=>(h3.own.lt ((hhd b).2 hb)).2) (b96 (h21 ⟨rfl,rfl,by rw[show ρ3 7=_ from hsh3];rfl⟩));refine WP.seqP (by kernel_rfl) (WP.fragP uok pOk (by kernel_rfl) heq hRf λσ4 Z4 π4 ρ4 w4 hK4 hR4 hf4=>?_);refine WP.seqP (by kernel_rfl) (WP.fragP uok pOk (by kernel_rfl) hK4 hR4 λσ5 Z5 π5 ρ5 w5 hK5 hR5 hf5=>?_);obtain⟨hm2,hb2⟩:=hR5.refM (qH hK5);have hO5:PL.Own 0 310 4 cellP w5 (ρ5 2) r:=b9b (X:=cx Z5 π5 σ5 w5) hP1 hm2;obtain⟨ad5,cap5,hsh5,_⟩:=hO5.shape;have hE5:Ext (λb=>hdV (ρ3 7)=some b) w3 w5:=hR5.ext;have hE05:Ext (λb=>w0.heap.size<=b) w0 w5:=hE3.trans (hE5.mono λb hb=>Nat.le_trans hB0 (h3.blk b ((hhd b).2 hb)));refine WP.retP (by kernel_rfl) ⟨ρ5 2,?_,⟨hE05.os,hE05.tape,hE05.output,hE05.size,λb hb _=>hE05.block b hb (by omega)⟩,hO5,λb hb=>?_⟩;.refine d0d (us:=[ρ5 2]) ?_;rw[show pF.results.toList=[.tmp 2]by kernel_rfl];simp[c6y,Frd]
 .obtain⟨_,_,h⟩:=hb2 b ((a95 hsh5).1 hb);rcases h with h|h;.exact Nat.le_trans hB0 (h3.blk b ((hhd b).2 h))
  .exact Nat.le_trans hE3.size h
def g7p:SX.Spec pP 164 g21:=by intro xs r hr Z G w us hl hR;match us,hl with
 |[u],_=>
   have s0:k9 (SX.Rp (U:=VV) cF) (cx Z (c7a [u]) (a02 0 [PK.ls cF] xs) w).G w u xs.1:=hR.slot 0;refine(show Calls pP _ [u].toArray w _ from(e87 ⟨hR.tab.1,λb hb=>(hR.tab.2 b hb).1⟩ (s0.weaken λ_ _ hh=>hh.elim) hr).mono λe w'⟨v,he,hE,hO,hB⟩=>⟨v,he,⟨Z,[v],[u],rfl,λ_ h=>h,λ_ h=>.inl h,hE.of_no,rfl,λ_ _ _ _=>rfl,⟨c39 hP2 hO _ rfl,trivial⟩,trivial,λv' hv' b hb=>?_,λi j v1 v2 b hne h1 h2=>?_⟩⟩);.have hv':v'∈[v]:=hv';rw[qF]at hv';subst hv';obtain⟨ad,cap,hsh,_⟩:=hO.shape;have hob:=(a95 hsh).2 hb;exact⟨λhz=>by have h1:b<w.heap.size:=hR.zlt b hz;have h2:w.heap.size<=b:=hB b hob;omega,(hO.lt hob).2,.inr (hB b hob)⟩
   .have h1:[v][i]?=some v1:=h1;have h2:[v][j]?=some v2:=h2;have hi:=(qD.1 h1).1;have hj:=(qD.1 h2).1;simp at hi hj;omega
end
end Go.PL
