/- Texts of the proof, joined. -/
import Derived.Test.YtaadmpfcifegdaaGreatDoorP2
import Derived.ChangeSame
import Derived.Deep.Slices
import Derived.OpenShut
import Derived.SizedLaws
import Derived.Below
import Derived.Carry
import Derived.WalkKit
import Derived.ProofKit
import Derived.Deep.DeepHandedRow
import Derived.Lib.LaidTab
import Derived.LaidOnce
import Derived.LaidMore
set_option linter.unusedVariables false
set_option linter.unusedSimpArgs false
set_option maxRecDepth 100000
namespace Go.SX
open Go Go.PL
section
variable {P:Program} {U:Uni} {Φ:Phi U}
structure En (U:Uni) where
 d:Option Tmp
 m:Nat
 v:U.AV
 ws:List (Nat×U.MC)
def c74 (P:Program) (Φ:Phi U) (C:RegC) (i:Nat) (o:Oper) (σ:U.St) (e:En U):Prop:=
 e.d=o.dst /\ ((gq C.ops o (opX P Φ C.sp i (C.base+16*i) o.op)).Ev σ 0 e.m e.v e.ws \/ (gq C.ops o (e50 o.op)).Ev σ 0 e.m e.v e.ws)
def Tr (P:Program) (Φ:Phi U) (C:RegC):Nat -> List Oper -> U.St -> List (En U) -> U.St -> Prop
 | _,[],σ,[],σ'=>σ'=σ
 | k,o::os,σ,e::es,σ'=>c74 P Φ C k o σ e /\ Tr P Φ C (k+1) os (σ.app e.d e.v e.ws) es σ'
 | _,_,_,_,_=>False
theorem Tr.append {C:RegC}: ∀{k:Nat} {os os':List Oper} {σ σ1 σ2:U.St} {es es':List (En U)},Tr P Φ C k os σ es σ1 -> Tr P Φ C (k+os.length) os' σ1 es' σ2 -> Tr P Φ C k (os++os') σ (es++es') σ2
 | k,[],os',σ,σ1,σ2,[],es',h,h'=>by have h:σ1=σ:=h;subst h;simpa using h'
 | k,o::os,os',σ,σ1,σ2,e::es,es',h,h'=>⟨h.1,Tr.append h.2 (by rwa [show k+1+os.length=k+(o::os).length by simp;omega])⟩
 | _,[],_,_,_,_,_::_,_,h,_=>h.elim
 | _,_::_,_,_,_,_,[],_,h,_=>h.elim
theorem Tr.len {C:RegC}: ∀{k:Nat} {os:List Oper} {σ σ1:U.St} {es:List (En U)},Tr P Φ C k os σ es σ1 -> es.length=os.length
 | k,[],σ,σ1,[],h=>rfl
 | k,o::os,σ,σ1,e::es,h=>by simp [Tr.len h.2]
 | _,[],_,_,_::_,h=>h.elim
 | _,_::_,_,_,[],h=>h.elim
def e0g (σ σ':U.St):Prop:=(∀t,σ.slot t= .unk \/ σ'.slot t=σ.slot t) /\ ∀id,σ'.mem id=σ.mem id
theorem e0g.app {σ σ':U.St} (h:e0g σ σ') (d:Option Tmp) (v:U.AV) (ws:List (Nat×U.MC)):e0g (σ.app d v ws) (σ'.app d v ws):=by
 refine ⟨fun t=> ?_,fun id=> ?_⟩
 ·rw [a4c,a4c];split
  ·exact .inr rfl
  ·exact h.1 t
 ·rw [a2c,a2c,h.2 id]
theorem e0g.ev {σ σ':U.St} (h:e0g σ σ') {q:U.Q}: ∀{m0 m:Nat} {v:U.AV} {ws:List (Nat×U.MC)},q.Ev σ m0 m v ws -> q.Ev σ' m0 m v ws:=by
 induction q with
 | rdT t k ih=>
   intro m0 m v ws hh
   have e:σ'.slot t=σ.slot t:=(h.1 t).resolve_left hh.1
   exact ⟨(by rw [e];exact hh.1),(by rw [e];exact ih _ hh.2)⟩
 | rdM id k ih=>intro m0 m v ws hh;show (k (σ'.mem id)).Ev σ' _ m v ws;rw [h.2 id];exact ih _ hh
 | opt o k ih=>intro m0 m v ws hh;obtain ⟨b,hb,hh⟩:=hh;exact ⟨b,hb,ih b hh⟩
 | cas o n k ih0 ih=>
   intro m0 m v ws hh
   rcases hh with ⟨hb,hh⟩ | ⟨b,hb,hh⟩
   ·exact .inl ⟨hb,ih0 hh⟩
   ·exact .inr ⟨b,hb,ih b hh⟩
 | done v' ws'=>intro m0 m v ws hh;exact hh
 | fail=>intro m0 m v ws hh;exact hh.elim
theorem e4c {σ:U.St} {q:U.Q} (x:Nat): ∀{m0 m:Nat} {v:U.AV} {ws:List (Nat×U.MC)},q.Ev σ m0 m v ws -> q.Ev σ (x ||| m0) (x ||| m) v ws:=by
 induction q with
 | rdT t k ih=>intro m0 m v ws hh;refine ⟨hh.1,?_⟩;have:=ih _ hh.2;rwa [<- Nat.or_assoc] at this
 | rdM id k ih=>intro m0 m v ws hh;have:=ih _ (show (k (σ.mem id)).Ev σ _ m v ws from hh);rw [<- Nat.or_assoc] at this;exact this
 | opt o k ih=>intro m0 m v ws hh;obtain ⟨b,hb,hh⟩:=hh;exact ⟨b,hb,ih b hh⟩
 | cas o n k ih0 ih=>
   intro m0 m v ws hh
   rcases hh with ⟨hb,hh⟩ | ⟨b,hb,hh⟩
   ·exact .inl ⟨hb,ih0 hh⟩
   ·exact .inr ⟨b,hb,ih b hh⟩
 | done v' ws'=>intro m0 m v ws hh;exact ⟨by rw [hh.1],hh.2⟩
 | fail=>intro m0 m v ws hh;exact hh.elim
def Sub (m s:Nat):Prop:= ∀i,m.testBit i=true -> s.testBit i=true
theorem e54 {m s:Nat} (h:g4f m s=true):Sub m s:=by
 intro i hi
 have:=Nat.eq_of_beq_eq_true h
 rw [<- this,Nat.testBit_or,hi];rfl
def c0n (C:RegC) (ctx:List (Nat×Bool)) (σ:U.St):Prop:= ∀q∈ctx,∃t,c4y C.ops q.1=some t /\ σ.slot t= .bool q.2
theorem c0n.app {C:RegC} {ctx:List (Nat×Bool)} {σ:U.St} (h:c0n C ctx σ) {d:Option Tmp} {v:U.AV} {ws:List (Nat×U.MC)} (hk:d2a C ctx d=true):c0n C ctx (σ.app d v ws):=by
 intro q hq
 obtain ⟨t,ht,hs⟩:=h q hq
 refine ⟨t,ht,?_⟩
 rw [a4c]
 split
 ·rename_i hd
  subst hd
  have:=List.all_eq_true.1 hk q hq
  rw [ht] at this
  simp at this
 ·exact hs
def g3v (e:En U) (w:Nat):Prop:=(∀d,e.d=some d -> w.testBit (2*d)=true) /\ ∀id m,lk id e.ws=some m -> w.testBit (2*id+1)=true
def e3o (C:RegC) (ctx:List (Nat×Bool)) (k:Nat) (os:List Oper) (es:List (En U)) (hist hist':List (Nat×Nat×Nat)):Prop:=match ctx with
 | []=> ∃lg:List (Nat×Nat×Nat),hist'=lg.reverse++hist /\ (C.draw=true -> b4g C lg hist=true) /\ lg.length=es.length /\ ∀(j:Nat) (e:En U) (g:Nat×Nat×Nat),es[j]? =some e -> lg[j]? =some g -> g.1=k+j /\ Sub e.m g.2.1 /\ g3v e g.2.2
 | _::_=>hist'=hist /\ ∀(j:Nat) (e:En U) (o:Oper),es[j]? =some e -> os[j]? =some o -> e.ws=[] /\ Sub e.m (b7v C.ops o C.lim)
theorem c39 {C:RegC}: ∀(a b hist:List (Nat×Nat×Nat)),b4g C a hist=true -> b4g C b (a.reverse++hist)=true -> b4g C (a++b) hist=true
 | [],b,hist,_,h=>by simpa using h
 | e::a,b,hist,h,h'=>by
   simp only [b4g,Bool.and_eq_true] at h
   simp only [List.cons_append,b4g,Bool.and_eq_true]
   exact ⟨h.1,c39 a b (e::hist) h.2 (by simpa using h')⟩
theorem s9 {α:Type} {l r:List α} {j:Nat} {a:α} (h:(l++r)[j]? =some a):(j<l.length /\ l[j]? =some a) \/ (l.length <= j /\ r[j-l.length]? =some a):=by
 rcases Nat.lt_or_ge j l.length with hj | hj
 ·rw [List.getElem?_append_left hj] at h;exact .inl ⟨hj,h⟩
 ·rw [List.getElem?_append_right hj] at h;exact .inr ⟨hj,h⟩
theorem e3o.append {C:RegC} {ctx:List (Nat×Bool)} {k:Nat} {os os':List Oper} {es es':List (En U)} {h0 h1 h2:List (Nat×Nat×Nat)} (hl:es.length=os.length) (h:e3o C ctx k os es h0 h1) (h':e3o C ctx (k+os.length) os' es' h1 h2):e3o C ctx k (os++os') (es++es') h0 h2:=by
 cases ctx with
 | nil=>
   obtain ⟨lg,e1,e2,e3,e4⟩:=h
   obtain ⟨lg',f1,f2,f3,f4⟩:=h'
   refine ⟨lg++lg',by rw [f1,e1];simp,fun hd=>c39 _ _ _ (e2 hd) (by rw [<- e1];exact f2 hd),by simp [e3,f3],fun j e g he hg=> ?_⟩
   rcases s9 he with ⟨hj,he⟩ | ⟨hj,he⟩
   ·rcases s9 hg with ⟨hj',hg⟩ | ⟨hj',hg⟩
    ·exact e4 j e g he hg
    ·omega
   ·rcases s9 hg with ⟨hj',hg⟩ | ⟨hj',hg⟩
    ·omega
    ·rw [e3] at hg
     obtain ⟨g1,g2,g3⟩:=f4 _ e g he hg
     exact ⟨by omega,g2,g3⟩
 | cons c ctx=>
   refine ⟨h'.1.trans h.1,fun j e o he ho=> ?_⟩
   rcases s9 he with ⟨hj,he⟩ | ⟨hj,he⟩
   ·rcases s9 ho with ⟨hj',ho⟩ | ⟨hj',ho⟩
    ·exact h.2 j e o he ho
    ·omega
   ·rcases s9 ho with ⟨hj',ho⟩ | ⟨hj',ho⟩
    ·omega
    ·rw [hl] at he;exact h'.2 _ e o he ho
theorem e94 {l:List Nat} {k:Nat} (h:k∈l):(bits l).testBit k=true:=by
 have key: ∀(l:List Nat) (m:Nat),(m.testBit k=true \/ k∈l) -> (l.foldl (fun m k=>m ||| 2^k) m).testBit k=true:=by
  intro l
  induction l with
  | nil=>intro m h;simpa using h
  | cons x l ih=>
    intro m h
    refine ih _ ?_
    rw [a71]
    rcases h with h | h
    ·left;rw [h];rfl
    ·rcases List.mem_cons.1 h with h | h
     ·left;simp [h]
     ·exact .inr h
 exact key l 0 (.inr h)
theorem d0c {ops:List Oper} {o:Oper} {b t:Nat} (h:t∈f1a o):(b7v ops o b).testBit (2*t)=true:=by
 unfold b7v
 rw [Nat.testBit_or,Nat.testBit_or,e94 (List.mem_map_of_mem h)];rfl
theorem b7o {ops:List Oper} {o:Oper} {b g t:Nat} {w:Bool} (h:o.guard=some (g,w)) (ht:c4y ops g=some t):(b7v ops o b).testBit (2*t)=true:=by
 unfold b7v
 rw [h]
 simp only [ht]
 rw [Nat.testBit_or,Nat.testBit_two_pow]
 simp
theorem c9m: ∀(os:List Oper) (k:Nat) (p:Nat×Oper -> Bool),∃os1 os2,os=os1++os2 /\ (b0w k os).takeWhile p=b0w k os1 /\ (b0w k os).dropWhile p=b0w (k+os1.length) os2 /\ ∀q∈b0w k os1,p q=true
 | [],k,p=>⟨[],[],rfl,rfl,rfl,fun q h=>by cases h⟩
 | o::os,k,p=>by
   cases hp:p (k,o) with
   | false=>exact ⟨[],o::os,rfl,by simp [b0w,hp],by simp [b0w,hp],fun q h=>by cases h⟩
   | true=>
     obtain ⟨os1,os2,h1,h2,h3,h4⟩:=c9m os (k+1) p
     refine ⟨o::os1,os2,by rw [h1];rfl,by simp [b0w,hp,h2],?_,fun q h=> ?_⟩
     ·simp only [b0w,List.dropWhile_cons,hp,if_true,h3,List.length_cons]
      congr 1;omega
     ·rcases List.mem_cons.1 h with h | h
      ·rw [h];exact hp
      ·exact h4 q h
theorem c67: ∀(os:List Oper) (k j:Nat) (o:Oper),os[j]? =some o -> (b0w k os)[j]? =some (k+j,o)
 | [],k,j,o,h=>by simp at h
 | x::os,k,0,o,h=>by simp at h;subst h;rfl
 | x::os,k,j+1,o,h=>by
   have:=c67 os (k+1) j o (by simpa using h)
   simp only [b0w,List.getElem?_cons_succ,this,show k+1+j=k+(j+1) by omega]
theorem d8a: ∀{os:List Oper} {k:Nat} {q:Nat×Oper},q∈b0w k os -> ∃j,q.1=k+j /\ os[j]? =some q.2
 | [],k,q,h=>by cases h
 | x::os,k,q,h=>by
   rcases List.mem_cons.1 h with h | h
   ·exact ⟨0,by rw [h];rfl,by rw [h];rfl⟩
   ·obtain ⟨j,h1,h2⟩:=d8a h
    exact ⟨j+1,by omega,by simpa using h2⟩
theorem c1p: ∀(l:List (Nat×Oper)) (σ:U.St) (t:Nat),((b2p σ l).slot t= .unk) \/ ((b2p σ l).slot t=σ.slot t /\ ∀q∈l,q.2.dst≠some t)
 | [],σ,t=> .inr ⟨rfl,fun q h=>by cases h⟩
 | q::l,σ,t=>by
   rcases c1p l (σ.put q.2.dst .unk) t with h | ⟨h,h'⟩
   ·exact .inl h
   ·have e:(σ.put q.2.dst .unk).slot t=if q.2.dst=some t then .unk else σ.slot t:=a4c σ q.2.dst .unk [] t
    have h:(b2p σ (q::l)).slot t=(σ.put q.2.dst .unk).slot t:=h
    rw [e] at h
    split at h
    ·exact .inl h
    ·rename_i hd
     exact .inr ⟨h,fun q' hq'=>by rcases List.mem_cons.1 hq' with e' | e';rw [e'];exact hd;exact h' q' e'⟩
theorem c7z: ∀(l:List (Nat×Oper)) (σ:U.St) (t:Nat),(∀q∈l,q.2.dst≠some t) -> (b2p σ l).slot t=σ.slot t
 | [],σ,t,_=>rfl
 | q::l,σ,t,h=>by
   have h1:=c7z l (σ.put q.2.dst .unk) t fun q' hq'=>h q' (List.mem_cons_of_mem _ hq')
   have e:(σ.put q.2.dst .unk).slot t=if q.2.dst=some t then .unk else σ.slot t:=a4c σ q.2.dst .unk [] t
   rw [if_neg (h q List.mem_cons_self)] at e
   exact h1.trans e
theorem c4j: ∀(l:List (Nat×Oper)) (σ:U.St) (id:Nat),(b2p σ l).mem id=σ.mem id
 | [],σ,id=>rfl
 | q::l,σ,id=>by
   have h:=c4j l (σ.put q.2.dst .unk) id
   have e:(σ.put q.2.dst .unk).mem id=σ.mem id:=a2c σ q.2.dst .unk [] id
   rw [e] at h;exact h
theorem d6q {C:RegC}: ∀{k:Nat} {os:List Oper} {σ σ1:U.St} {es:List (En U)},Tr P Φ C k os σ es σ1 -> (∀e∈es,e.ws=[]) -> (∀id,σ1.mem id=σ.mem id) /\ ∀t,(∀o∈os,o.dst≠some t) -> σ1.slot t=σ.slot t
 | k,[],σ,σ1,[],h,_=>by have h:σ1=σ:=h;subst h;exact ⟨fun _=>rfl,fun _ _=>rfl⟩
 | k,o::os,σ,σ1,e::es,h,hw=>by
   obtain ⟨h1,h2⟩:=d6q h.2 fun e he=>hw e (List.mem_cons_of_mem _ he)
   have hw0:=hw e List.mem_cons_self
   refine ⟨fun id=> ?_,fun t ht=> ?_⟩
   ·rw [h1 id,a2c,hw0];rfl
   ·rw [h2 t fun o ho=>ht o (List.mem_cons_of_mem _ ho),a4c,if_neg]
    rw [h.1.1];exact ht o List.mem_cons_self
 | _,[],_,_,_::_,h,_=>h.elim
 | _,_::_,_,_,[],h,_=>h.elim
theorem c98 {σ σ':U.St} (h:e0g σ σ') {x:Operand} {b:Bool} (hb:b8v σ x=some b):b8v σ' x=some b:=by
 unfold b8v at hb⊢
 split at hb
 ·exact hb
 ·rename_i t
  split at hb
  ·rename_i b' hs
   have:σ'.slot t=σ.slot t:=(h.1 t).resolve_left (by rw [hs];intro e;cases e)
   rw [this,hs];exact hb
  ·cases hb
 ·cases hb
def opM:Operand -> Nat
 | .tmp t=>2^(2*t)
 | _=>0
theorem c54 {σ:U.St} {t:Nat} {e:Bool} (h:σ.slot t= .bool e):σ.slot t≠ .unk:=by rw [h];intro h;cases h
theorem e8h {σ:U.St} {t:Nat} (h:σ.slot t= .undef):σ.slot t≠ .unk:=by rw [h];intro h;cases h
theorem f1q {σ:U.St} {x:Operand} {b:Bool} (hb:b8v σ x=some b) (m:Nat):(rdO x fun y=>(.done y []:U.Q)).Ev σ m (m ||| opM x) (.bool b) []:=by
 cases x with
 | tmp t=>
   simp only [b8v] at hb
   split at hb
   ·rename_i b' hs
    cases hb
    exact ⟨c54 hs,rfl,hs.symm,rfl⟩
   ·cases hb
 | const c=>
   cases c<;>try cases hb
   exact ⟨by simp [opM],rfl,rfl⟩
 | global g=>cases hb
 | func f=>cases hb
theorem e42 {C:RegC} {ctx:List (Nat×Bool)} {σ:U.St} {q:Nat×Oper} {d t:Tmp} {x y:Operand} {e c:Bool} (hp:d5s q=some (d,t,x,y)) (hg:okG ctx q.2=true) (hctx:c0n C ctx σ) (hs:σ.slot t= .bool e) (hb:b8v σ (if e=true then x else y)=some c):
  ∃m,c74 P Φ C q.1 q.2 σ ⟨some d,m,.bool c,[]⟩ /\ Sub m (b7v C.ops q.2 C.lim):=by
 unfold d5s at hp
 split at hp
 ·rename_i d0 t0 x0 y0 hd ho
  cases hp
  have hev:(e50 q.2.op:U.Q).Ev σ 0 (2^(2*t) ||| (opM (if e=true then x else y))) (.bool c) []:=by
   rw [ho]
   refine ⟨c54 hs,?_⟩
   show Q.Ev σ (match σ.slot t with | .bool e=>(match e with | true=>rdO x fun x=> .done x [] | false=>rdO y fun y=> .done y []) | _=> .fail) _ _ _ _
   rw [hs]
   have:=f1q hb (0 ||| 2^(2*t))
   rw [Nat.zero_or] at this
   cases e
   ·simpa using this
   ·simpa using this
  have hsub:Sub (2^(2*t) ||| (opM (if e=true then x else y))) (b7v C.ops q.2 C.lim):=by
   have hop:f1a q.2=([.tmp t,x,y]:List Operand).filterMap fun | .tmp t=>some t | _=>none:=by
    unfold f1a;rw [ho];rfl
   intro i hi
   rw [Nat.testBit_or,Nat.testBit_two_pow] at hi
   simp only [Bool.or_eq_true,decide_eq_true_eq] at hi
   rcases hi with hi | hi
   ·rw [<- hi];exact d0c (by rw [hop];simp)
   ·unfold opM at hi
    split at hi
    ·rename_i tt htt
     rw [Nat.testBit_two_pow] at hi
     simp only [decide_eq_true_eq] at hi
     rw [<- hi]
     refine d0c ?_
     rw [hop,List.mem_filterMap]
     refine ⟨.tmp tt,?_,rfl⟩
     split at htt<;>simp [htt]
    ·simp at hi
  cases hgd:q.2.guard with
  | none=>exact ⟨_,⟨hd.symm,.inr (by unfold gq;rw [hgd];exact hev)⟩,hsub⟩
  | some gw=>
    obtain ⟨g,w⟩:=gw
    unfold okG at hg
    rw [hgd] at hg
    obtain ⟨cq,hcq,hc2⟩:=List.any_eq_true.1 hg
    simp only [Bool.and_eq_true,beq_iff_eq] at hc2
    obtain ⟨tg,htg,hsg⟩:=hctx cq hcq
    rw [Nat.eq_of_beq_eq_true hc2.1] at htg
    rw [hc2.2] at hsg
    refine ⟨2^(2*tg) ||| (2^(2*t) ||| (opM (if e=true then x else y))),⟨hd.symm,.inr ?_⟩,?_⟩
    ·unfold gq
     rw [hgd]
     simp only [htg]
     refine ⟨c54 hsg,?_⟩
     show Q.Ev σ (match σ.slot tg with | .bool b=>(match b==w with | true=>e50 q.2.op | false=> .done .undef []) | .undef=> .done .undef [] | _=> .fail) _ _ _ _
     rw [hsg]
     simp only [beq_self_eq_true]
     have:=e4c (2^(2*tg)) hev
     simpa using this
    ·intro i hi
     rw [Nat.testBit_or,Nat.testBit_two_pow] at hi
     simp only [Bool.or_eq_true,decide_eq_true_eq] at hi
     rcases hi with hi | hi
     ·rw [<- hi];exact b7o hgd htg
     ·exact hsub i hi
 ·cases hp
theorem e3s {C:RegC} {k:Nat} {g t:Nat} {want e:Bool} (hg:c4y C.ops g=some t) (hne:e≠want): ∀(os:List Oper) (j0:Nat) (σ:U.St),k <= j0 -> σ.slot t= .bool e -> (∀g',k <= g' -> g'<j0 -> ∃t',c4y C.ops g'=some t' /\ σ.slot t'= .undef) -> (∀j o,os[j]? =some o -> C.ops[j0+j]? =some o) -> (∀q∈b0w j0 os,c0u g want k q=true) -> e9q t (b0w j0 os)=true ->
  ∃es σ',Tr P Φ C j0 os σ es σ' /\ (∀e∈es,e.ws=[]) /\ (∀(j:Nat) (e:En U) (o:Oper),es[j]? =some e -> os[j]? =some o -> Sub e.m (b7v C.ops o C.lim)) /\ σ'.slot t= .bool e
 | [],j0,σ,_,hs,_,_,_,_=>⟨[],σ,rfl,(fun e h=>by cases h),(fun j e o h=>by simp at h),hs⟩
 | o::os,j0,σ,hk,hs,hu,hops,hin,hseg=>by
   have hin0:=hin (j0,o) List.mem_cons_self
   unfold c0u at hin0
   have hseg0: ∃d,o.dst=some d /\ d≠t:=by
    have:=List.all_eq_true.1 hseg (j0,o) List.mem_cons_self
    cases hd:o.dst with
    | none=>rw [hd] at this;cases this
    | some d=>
      rw [hd] at this
      refine ⟨d,rfl,fun he=> ?_⟩
      rw [he] at this;simp at this
   obtain ⟨d,hd,hdt⟩:=hseg0
   cases hgd:o.guard with
   | none=>rw [hgd] at hin0;cases hin0
   | some gw=>
     obtain ⟨g',w'⟩:=gw
     rw [hgd] at hin0
     simp only [Bool.or_eq_true,Bool.and_eq_true,beq_iff_eq] at hin0
     have hstep: ∃m,(∀q:U.Q,(gq C.ops o q).Ev σ 0 m .undef []) /\ Sub m (b7v C.ops o C.lim):=by
      rcases hin0 with ⟨h1,h2⟩ | ⟨h1,h2⟩
      ·have h1:=Nat.eq_of_beq_eq_true h1
       subst h1
       refine ⟨0 ||| 2^(2*t),fun q=> ?_,fun i hi=> ?_⟩
       ·unfold gq
        rw [hgd]
        simp only [hg]
        refine ⟨c54 hs,?_⟩
        show Q.Ev σ (match σ.slot t with | .bool b=>(match b==w' with | true=>q | false=> .done .undef []) | .undef=> .done .undef [] | _=> .fail) _ _ _ _
        rw [hs,h2]
        have:(e==want)=false:=by cases e<;>cases want<;>first | rfl | exact absurd rfl hne
        simp only [this]
        exact ⟨rfl,rfl,rfl⟩
       ·rw [Nat.zero_or,Nat.testBit_two_pow] at hi
        simp only [decide_eq_true_eq] at hi
        rw [<- hi];exact b7o hgd hg
      ·have h1:=Nat.le_of_ble_eq_true h1
       have h2:g'<j0:=by simpa [Nat.blt_eq] using h2
       obtain ⟨t',ht',hs'⟩:=hu g' h1 h2
       refine ⟨0 ||| 2^(2*t'),fun q=> ?_,fun i hi=> ?_⟩
       ·unfold gq
        rw [hgd]
        simp only [ht']
        refine ⟨e8h hs',?_⟩
        show Q.Ev σ (match σ.slot t' with | .bool b=>(match b==w' with | true=>q | false=> .done .undef []) | .undef=> .done .undef [] | _=> .fail) _ _ _ _
        rw [hs']
        exact ⟨rfl,rfl,rfl⟩
       ·rw [Nat.zero_or,Nat.testBit_two_pow] at hi
        simp only [decide_eq_true_eq] at hi
        rw [<- hi];exact b7o hgd ht'
     obtain ⟨m,hm,hsub⟩:=hstep
     have hops0:C.ops[j0]? =some o:=by simpa using hops 0 o rfl
     obtain ⟨es,σ',h1,h2,h3,h4⟩:=e3s hg hne os (j0+1) (σ.app o.dst .undef []) (by omega) (by rw [a4c,hd,if_neg (by simpa using hdt)];exact hs)
      (fun g' hg1 hg2=>by
       rcases Nat.lt_or_ge g' j0 with hlt | hge
       ·obtain ⟨t',ht',hs'⟩:=hu g' hg1 hlt
        refine ⟨t',ht',?_⟩
        rw [a4c];split
        ·rfl
        ·exact hs'
       ·have:g'=j0:=by omega
        subst this
        refine ⟨d,by unfold c4y;rw [hops0];exact hd,?_⟩
        rw [a4c,if_pos hd])
      (fun j o' ho'=>by have:=hops (j+1) o' (by simpa using ho');rwa [show j0+(j+1)=j0+1+j by omega] at this) (fun q hq=>hin q (List.mem_cons_of_mem _ hq)) (by
       have:=hseg
       unfold e9q at this⊢
       rw [b0w,List.all_cons,Bool.and_eq_true] at this
       exact this.2)
     refine ⟨⟨o.dst,m,.undef,[]⟩::es,σ',⟨⟨rfl,.inl (hm _)⟩,h1⟩,fun e he=> ?_,fun j e o' he ho'=> ?_,h4⟩
     ·rcases List.mem_cons.1 he with he | he
      ·rw [he]
      ·exact h2 e he
     ·cases j with
      | zero=>simp at he ho';subst he;subst ho';exact hsub
      | succ j=>exact h3 j e o' (by simpa using he) (by simpa using ho')
end
end Go.SX
namespace Go.SX
open Go Go.PL
section
variable {P:Program} {U:Uni} {Φ:Phi U}
theorem c0f {o:Oper} {ws:List (Nat×U.MC)}:(∀d,o.dst=some d -> (c0v o ws).testBit (2*d)=true) /\ ∀id m,lk id ws=some m -> (c0v o ws).testBit (2*id+1)=true:=by
 have key: ∀(ws:List (Nat×U.MC)) (m k:Nat),(m.testBit k=true \/ ∃w∈ws,2*w.1+1=k) -> (ws.foldl (fun m w=>m ||| 2^(2*w.1+1)) m).testBit k=true:=by
  intro ws
  induction ws with
  | nil=>
    intro m k h
    rcases h with h | ⟨w,hw,_⟩
    ·exact h
    ·cases hw
  | cons w ws ih=>
    intro m k h
    refine ih _ k ?_
    rw [a71]
    rcases h with h | ⟨w',hw',h⟩
    ·left;rw [h];rfl
    ·rcases List.mem_cons.1 hw' with e | e
     ·left;rw [<- h,e];simp
     ·exact .inr ⟨w',e,h⟩
 refine ⟨fun d hd=>key ws _ _ (.inl ?_),fun id m hl=>key ws _ _ (.inr ⟨_,b15 hl,rfl⟩)⟩
 unfold g1v
 rw [hd]
 simp
theorem e3n {o:Oper} {d:Nat} (hd:o.dst=some d):(g1v o).testBit (2*d)=true:=by
 unfold g1v;rw [hd];simp
def c3p (P:Program) (Φ:Phi U) (C:RegC) {R:Type} (k:Nat) (os:List Oper) (ctx:List (Nat×Bool)) (hist:List (Nat×Nat×Nat)) (σ0 σx:U.St) (K:List (Nat×Nat×Nat) -> U.St -> Option R) (r:R):Prop:=
 ∃es σx' σe' hist',Tr P Φ C k os σx es σx' /\ e0g σe' σx' /\ c0n C ctx σx' /\ K hist' σe'=some r /\ e3o C ctx k os es hist hist' /\ ∀t,(∀o∈os,o.dst≠some t) -> σe'.slot t=σ0.slot t
theorem c3p.cons {C:RegC} {R:Type} {k:Nat} {o:Oper} {os:List Oper} {ctx:List (Nat×Bool)} {h0 h1:List (Nat×Nat×Nat)} {σ0 σx:U.St} {v0:U.AV} {w0:List (Nat×U.MC)} {K:List (Nat×Nat×Nat) -> U.St -> Option R} {r:R} {e:En U}
  (hs:c74 P Φ C k o σx e) (hl:e3o C ctx k [o] [e] h0 h1) (h:c3p P Φ C (k+1) os ctx h1 (σ0.app o.dst v0 w0) (σx.app e.d e.v e.ws) K r):c3p P Φ C k (o::os) ctx h0 σ0 σx K r:=by
 obtain ⟨es,σx',σe',hist',g1,g2,g3,g4,g5,g6⟩:=h
 refine ⟨e::es,σx',σe',hist',⟨hs,g1⟩,g2,g3,g4,e3o.append (os:=[o]) (es:=[e]) rfl hl g5,fun t ht=> ?_⟩
 rw [g6 t fun o' ho'=>ht o' (List.mem_cons_of_mem _ ho'),a4c,if_neg (ht o List.mem_cons_self)]
theorem c3p.append {C:RegC} {R:Type} {k:Nat} {os os':List Oper} {ctx:List (Nat×Bool)} {h0 h1:List (Nat×Nat×Nat)} {σ0 σ2 σx σ1:U.St} {K:List (Nat×Nat×Nat) -> U.St -> Option R} {r:R} {es:List (En U)}
  (ht:Tr P Φ C k os σx es σ1) (hl:e3o C ctx k os es h0 h1) (hk: ∀t,(∀o∈os,o.dst≠some t) -> σ2.slot t=σ0.slot t) (h:c3p P Φ C (k+os.length) os' ctx h1 σ2 σ1 K r):c3p P Φ C k (os++os') ctx h0 σ0 σx K r:=by
 obtain ⟨es',σx',σe',hist',g1,g2,g3,g4,g5,g6⟩:=h
 exact ⟨es++es',σx',σe',hist',ht.append g1,g2,g3,g4,e3o.append ht.len hl g5,fun t ht'=>(g6 t fun o ho=>ht' o (List.mem_append_right _ ho)).trans (hk t fun o ho=>ht' o (List.mem_append_left _ ho))⟩
theorem g36 {C:RegC} {ctx:List (Nat×Bool)} {σ:U.St} {o:Oper} (hg:okG ctx o=true) (hctx:c0n C ctx σ) {q:U.Q} {m:Nat} {v:U.AV} {ws:List (Nat×U.MC)} (hev:q.Ev σ 0 m v ws):
  ∃m',(gq C.ops o q).Ev σ 0 m' v ws /\ (Sub m (b7v C.ops o C.lim) -> Sub m' (b7v C.ops o C.lim)) /\ (ctx=[] -> m'=m):=by
 cases hgd:o.guard with
 | none=>exact ⟨m,by unfold gq;rw [hgd];exact hev,fun h=>h,fun _=>rfl⟩
 | some gw=>
   obtain ⟨g,w⟩:=gw
   unfold okG at hg
   rw [hgd] at hg
   obtain ⟨cq,hcq,hc2⟩:=List.any_eq_true.1 hg
   simp only [Bool.and_eq_true,beq_iff_eq] at hc2
   obtain ⟨tg,htg,hsg⟩:=hctx cq hcq
   rw [Nat.eq_of_beq_eq_true hc2.1] at htg
   rw [hc2.2] at hsg
   refine ⟨2^(2*tg) ||| m,?_,fun hs=> ?_,fun h=>by rw [h] at hcq;cases hcq⟩
   ·unfold gq
    rw [hgd]
    simp only [htg]
    refine ⟨c54 hsg,?_⟩
    show Q.Ev σ (match σ.slot tg with | .bool b=>(match b==w with | true=>q | false=> .done .undef []) | .undef=> .done .undef [] | _=> .fail) _ _ _ _
    rw [hsg]
    simp only [beq_self_eq_true]
    have:=e4c (2^(2*tg)) hev
    simpa using this
   ·intro i hi
    rw [Nat.testBit_or,Nat.testBit_two_pow] at hi
    simp only [Bool.or_eq_true,decide_eq_true_eq] at hi
    rcases hi with hi | hi
    ·rw [<- hi];exact b7o hgd htg
    ·exact hs i hi
theorem c0n.nil {C:RegC} {σ:U.St}:c0n C [] σ:=fun q h=>by cases h
theorem f1v {C:RegC} {ctx:List (Nat×Bool)} {σ σ1:U.St} {os:List Oper} {k:Nat} (h:c0n C ctx σ) (hk: ∀q∈b0w k os,d2a C ctx q.2.dst=true) (hs: ∀t,(∀o∈os,o.dst≠some t) -> σ1.slot t=σ.slot t):c0n C ctx σ1:=by
 intro q hq
 obtain ⟨t,ht,hst⟩:=h q hq
 refine ⟨t,ht,?_⟩
 rw [hs t fun o ho hd=> ?_]
 ·exact hst
 ·obtain ⟨j,hj⟩:=List.getElem?_of_mem ho
  have hm:(k+j,o)∈b0w k os:=List.mem_of_getElem? (c67 os k j o hj)
  have h1:=hk _ hm
  unfold d2a at h1
  rw [hd] at h1
  have h2:=List.all_eq_true.1 h1 q hq
  rw [ht] at h2
  simp at h2
theorem e9m {C:RegC} {k:Nat} {os:List Oper} {es:List (En U)} {σ σ1:U.St} (ht:Tr P Φ C k os σ es σ1) (hw: ∀(j:Nat) (e:En U) (o:Oper),es[j]? =some e -> os[j]? =some o -> e.ws=[] /\ Sub e.m (b7v C.ops o C.lim)):
  ∀(j:Nat) (e:En U) (g:Nat×Nat×Nat),es[j]? =some e -> (c8x C (b0w k os))[j]? =some g -> g.1=k+j /\ Sub e.m g.2.1 /\ g3v e g.2.2:=by
 induction os generalizing k es σ with
 | nil=>intro j e g he hg;simp [c8x,b0w] at hg
 | cons o os ih=>
   cases es with
   | nil=>exact ht.elim
   | cons e0 es=>
     intro j e g he hg
     cases j with
     | zero=>
       simp [c8x,b0w] at he hg
       subst he;subst hg
       obtain ⟨h1,h2⟩:=hw 0 e0 o rfl rfl
       refine ⟨rfl,h2,fun d hd=> ?_,fun id m hl=>by rw [h1] at hl;cases hl⟩
       rw [ht.1.1] at hd
       exact e3n hd
     | succ j=>
       obtain ⟨h1,h2,h3⟩:=ih ht.2 (fun j e o he ho=>hw (j+1) e o (by simpa using he) (by simpa using ho)) j e g (by simpa using he) (by simpa [c8x,b0w] using hg)
       exact ⟨by omega,h2,h3⟩
theorem c7o: ∀(a b:List Oper) (k:Nat),b0w k (a++b)=b0w k a++b0w (k+a.length) b
 | [],b,k=>rfl
 | x::a,b,k=>by simp only [List.cons_append,b0w,c7o a b (k+1),List.length_cons,show k+1+a.length=k+(a.length+1) by omega]
theorem d9n: ∀(os:List Oper) (k:Nat),(b0w k os).length=os.length
 | [],_=>rfl
 | _::os,k=>by simp [b0w,d9n os]
theorem a81 {C:RegC} {R:Type}: ∀(n k:Nat) (os:List Oper) (ctx:List (Nat×Bool)) (hist:List (Nat×Nat×Nat)) (σe:U.St) (K:List (Nat×Nat×Nat) -> U.St -> Option R) (r:R),b3j P Φ C n (b0w k os) ctx hist σe K=some r -> (∀(j:Nat) (o:Oper),os[j]? =some o -> C.ops[k+j]? =some o) ->
  ∀σx,e0g σe σx -> c0n C ctx σx -> c3p P Φ C k os ctx hist σe σx K r
 | 0,_,_,_,_,_,_,_,h,_,_,_,_=>by cases h
 | n+1,k,[],ctx,hist,σe,K,r,h,_,σx,hl,hc=>by
   refine ⟨[],σx,σe,hist,rfl,hl,hc,h,?_⟩
   cases ctx with
   | nil=>exact ⟨⟨[],rfl,fun _=>rfl,rfl,fun j e g he=>by simp at he⟩,fun _ _=>rfl⟩
   | cons _ _=>exact ⟨⟨rfl,fun j e o he=>by simp at he⟩,fun _ _=>rfl⟩
 | n+1,k,o::os,ctx,hist,σe,K,r,h,hops,σx,hless,hctx=>by
   have hops1: ∀(j:Nat) (o':Oper),os[j]? =some o' -> C.ops[k+1+j]? =some o':=fun j o' ho'=>by
    have:=hops (j+1) o' (by simpa using ho')
    rwa [show k+(j+1)=k+1+j by omega] at this
   simp only [b0w,b3j] at h
   cases hsp:(spG C o||C.sp.any (Nat.beq k))&&ctx.isEmpty with
   | true=>
     rw [hsp] at h
     dsimp only at h
     simp only [Bool.and_eq_true,List.isEmpty_iff] at hsp
     have hcn:=hsp.2
     subst hcn
     obtain ⟨m,v,ws,hev,h⟩:=d2o h
     have hst:c74 P Φ C k o σx ⟨o.dst,m,v,ws⟩:=by
      refine ⟨rfl,?_⟩
      have hev:=hless.ev hev
      cases hp:f4a o.op with
      | true=>rw [hp] at hev;exact .inr hev
      | false=>rw [hp] at hev;exact .inl hev
     cases hc: !C.draw||d6e (C.bef.getD k 0) m (c0v o ws) hist with
     | false=>rw [hc] at h;cases h
     | true=>
       rw [hc] at h
       dsimp only at h
       have hlg:e3o C [] k [o] [(⟨o.dst,m,v,ws⟩:En U)] hist ((k,m,c0v o ws)::hist):=by
        refine ⟨[(k,m,c0v o ws)],rfl,fun hd=> ?_,rfl,fun j e g he hg=> ?_⟩
        ·rw [hd] at hc
         simp only [b4g,Bool.and_true]
         simpa using hc
        ·cases j with
         | zero=>
           simp at he hg
           subst he;subst hg
           exact ⟨rfl,fun _ h=>h,c0f.1,c0f.2⟩
         | succ j=>simp at he
       have fin: ∀σ':U.St,(∀t,σ'.slot t= .unk \/ (σe.app o.dst v ws).slot t=σ'.slot t) -> (∀id,σ'.mem id=(σe.app o.dst v ws).mem id) -> (∀t,o.dst≠some t -> σ'.slot t=(σe.app o.dst v ws).slot t) -> b3j P Φ C n (b0w (k+1) os) [] ((k,m,c0v o ws)::hist) σ' K=some r -> c3p P Φ C k (o::os) [] hist σe σx K r:=by
        intro σ' hs1 hs2 hs3 h
        have hless':e0g σ' (σx.app o.dst v ws):=by
         have h0:=hless.app o.dst v ws
         refine ⟨fun t=> ?_,fun id=>by rw [h0.2 id,hs2 id]⟩
         rcases hs1 t with h1 | h1
         ·exact .inl h1
         ·rcases h0.1 t with h2 | h2
          ·left;rw [<- h1];exact h2
          ·right;rw [h2,h1]
        obtain ⟨es,σx',σe',hist',g1,g2,g3,g4,g5,g6⟩:=a81 n (k+1) os [] _ _ K r h hops1 _ hless' c0n.nil
        refine ⟨⟨o.dst,m,v,ws⟩::es,σx',σe',hist',⟨hst,g1⟩,g2,g3,g4,e3o.append (os:=[o]) (es:=[⟨o.dst,m,v,ws⟩]) rfl hlg g5,fun t ht=> ?_⟩
        rw [g6 t fun o' ho'=>ht o' (List.mem_cons_of_mem _ ho'),hs3 t (ht o List.mem_cons_self),a4c,if_neg (ht o List.mem_cons_self)]
       have self:b3j P Φ C n (b0w (k+1) os) [] ((k,m,c0v o ws)::hist) (σe.app o.dst v ws) K=some r -> c3p P Φ C k (o::os) [] hist σe σx K r:=
        fun h=>fin _ (fun t=> .inr rfl) (fun _=>rfl) (fun _ _=>rfl) h
       split at h
       ·unfold f4y at h
        split at h
        ·rename_i t hdt
         have put: ∀b:Bool,(σe.app o.dst v ws).slot t= .bool b -> b3j P Φ C n (b0w (k+1) os) [] ((k,m,c0v o ws)::hist) ((σe.app o.dst v ws).put (some t) (.bool b)) K=some r -> c3p P Φ C k (o::os) [] hist σe σx K r:=by
          intro b hb h
          have e: ∀t',((σe.app o.dst v ws).put (some t) (.bool b)).slot t'=if some t=some t' then .bool b else (σe.app o.dst v ws).slot t':=fun t'=>a4c (σe.app o.dst v ws) (some t) (.bool b) [] t'
          refine fin ((σe.app o.dst v ws).put (some t) (.bool b)) (fun t'=> ?_) (fun id=>rfl) (fun t' ht'=> ?_) h
          ·right
           rw [e]
           split
           ·rename_i e';cases e';exact hb
           ·rfl
          ·rw [e,if_neg]
           rw [hdt] at ht';exact ht'
         split at h
         ·rename_i e he
          cases e with
          | true=>exact put true he (by simpa using h)
          | false=>exact put false he (by simpa using h)
         ·exact self h
         ·cases h
        ·cases h
       ·exact self h
   | false=>
   rw [hsp] at h
   dsimp only at h
   clear hsp
   cases hg:okG ctx o with
   | true=>
     rw [hg] at h
     dsimp only at h
     obtain ⟨m,v,ws,hev,h⟩:=d2o h
     obtain ⟨m',hgq,hsub,hm'⟩:=g36 hg hctx (hless.ev hev)
     cases ctx with
     | nil=>
       dsimp only at h
       cases hc: !C.draw||d6e (C.bef.getD k 0) m (c0v o ws) hist with
       | false=>rw [hc] at h;cases h
       | true=>
         rw [hc] at h
         dsimp only at h
         have hmm:=hm' rfl
         subst hmm
         refine c3p.cons (e:=⟨o.dst,m',v,ws⟩) (h1:=(k,m',c0v o ws)::hist) ⟨rfl,.inl hgq⟩ ⟨[(k,m',c0v o ws)],rfl,fun hd=> ?_,rfl,fun j e g he hg=> ?_⟩ (a81 n (k+1) os [] _ _ K r h hops1 _ (hless.app _ _ _) c0n.nil)
         ·rw [hd] at hc
          simp only [b4g,Bool.and_true]
          simpa using hc
         ·cases j with
          | zero=>
            simp at he hg
            subst he;subst hg
            exact ⟨rfl,fun _ h=>h,c0f.1,c0f.2⟩
          | succ j=>simp at he
     | cons c ctx=>
       dsimp only at h
       cases ws with
       | cons _ _=>cases h
       | nil=>
         dsimp only at h
         cases hc:d2a C (c::ctx) o.dst&&g4f m (b7v C.ops o C.lim) with
         | false=>rw [hc] at h;cases h
         | true=>
           rw [hc] at h
           dsimp only at h
           simp only [Bool.and_eq_true] at hc
           refine c3p.cons (e:=⟨o.dst,m',v,[]⟩) (h1:=hist) ⟨rfl,.inl hgq⟩ ⟨rfl,fun j e o' he ho'=> ?_⟩ (a81 n (k+1) os (c::ctx) _ _ K r h hops1 _ (hless.app _ _ _) (hctx.app hc.1))
           cases j with
           | zero=>
             simp at he ho'
             subst he;subst ho'
             exact ⟨rfl,hsub (e54 hc.2)⟩
           | succ j=>simp at he
   | false=>
     rw [hg] at h
     dsimp only at h
     cases hgd:o.guard with
     | none=>rw [hgd] at h;cases h
     | some gw=>
       obtain ⟨g,want⟩:=gw
       rw [hgd] at h
       dsimp only at h
       cases hgs:c4y C.ops g with
       | none=>rw [hgs] at h;cases h
       | some t=>
         rw [hgs] at h
         dsimp only at h
         cases hst:σe.slot t<;>rw [hst] at h<;>try (cases h;done)
         rename_i e
         dsimp only at h
         obtain ⟨os1,os2,hos,htk,hdr,hin⟩:=c9m (o::os) k (c0u g want k)
         have htk:((k,o)::b0w (k+1) os).takeWhile (c0u g want k)=b0w k os1:=htk
         have hdr:((k,o)::b0w (k+1) os).dropWhile (c0u g want k)=b0w (k+os1.length) os2:=hdr
         rw [htk,hdr] at h
         cases os2 with
         | nil=>cases h
         | cons op os2=>
           simp only [b0w] at h
           cases hp:d5s (k+os1.length,op) with
           | none=>rw [hp] at h;cases h
           | some dt=>
             obtain ⟨d,t',x,y⟩:=dt
             rw [hp] at h
             dsimp only at h
             cases hc:Nat.beq t' t&&okG ctx op&&d2a C ctx (some d)&&e9q t (b0w k os1)&&((b0w k os1).all fun q=>d2a C ctx q.2.dst) with
             | false=>rw [hc] at h;cases h
             | true=>
               rw [hc] at h
               dsimp only at h
               simp only [Bool.and_eq_true] at hc
               obtain ⟨⟨⟨⟨hc1,hc2⟩,hc3⟩,hc4⟩,hc5⟩:=hc
               have hc1:=Nat.eq_of_beq_eq_true hc1
               subst hc1
               obtain ⟨c,hcv,h⟩:=g2y h
               have hsx:σx.slot t'= .bool e:=by rw [(hless.1 t').resolve_left (c54 hst)];exact hst
               have hops0: ∀(j:Nat) (o':Oper),os1[j]? =some o' -> C.ops[k+j]? =some o':=fun j o' ho'=>hops j o' (by rw [hos,List.getElem?_append_left (List.getElem?_eq_some_iff.1 ho').1];exact ho')
               have hops2: ∀(j:Nat) (o':Oper),os2[j]? =some o' -> C.ops[k+os1.length+1+j]? =some o':=fun j o' ho'=>by
                have:=hops (os1.length+1+j) o' (by rw [hos,List.getElem?_append_right (by omega),show os1.length+1+j-os1.length=j+1 by omega];simpa using ho')
                rwa [show k+(os1.length+1+j)=k+os1.length+1+j by omega] at this
               have hseg: ∃es σ1,Tr P Φ C k os1 σx es σ1 /\ (∀(j:Nat) (e:En U) (o:Oper),es[j]? =some e -> os1[j]? =some o -> e.ws=[] /\ Sub e.m (b7v C.ops o C.lim)) /\ (∀e∈es,e.ws=[]) /\ σ1.slot t'= .bool e /\ b8v σ1 (if e=true then x else y)=some c:=by
                have run: ∀(z:Operand),e=want -> (if e=true then x else y)=z -> b3j P Φ C n (b0w k os1) ((g,want)::ctx) hist σe (fun _ σ'=>b8v σ' z)=some c -> ∃es σ1,Tr P Φ C k os1 σx es σ1 /\ (∀(j:Nat) (e:En U) (o:Oper),es[j]? =some e -> os1[j]? =some o -> e.ws=[] /\ Sub e.m (b7v C.ops o C.lim)) /\ (∀e∈es,e.ws=[]) /\ σ1.slot t'= .bool e /\ b8v σ1 (if e=true then x else y)=some c:=by
                 intro z hew hz hr
                 obtain ⟨es,σ1,σe1,hist1,g1,g2,g3,g4,g5,_⟩:=a81 n k os1 ((g,want)::ctx) hist σe _ c hr hops0 σx hless (fun q hq=>by
                  rcases List.mem_cons.1 hq with e' | e'
                  ·rw [e'];exact ⟨t',hgs,by rw [hsx,hew]⟩
                  ·exact hctx q e')
                 obtain ⟨tt,ht1,ht2⟩:=g3 (g,want) List.mem_cons_self
                 rw [hgs] at ht1
                 cases ht1
                 refine ⟨es,σ1,g1,g5.2,fun e he=> ?_,by rw [hew];exact ht2,by rw [hz];exact c98 g2 g4⟩
                 obtain ⟨j,hj⟩:=List.getElem?_of_mem he
                 have hlt:j<os1.length:=by rw [<- g1.len];exact (List.getElem?_eq_some_iff.1 hj).1
                 exact (g5.2 j e _ hj (List.getElem?_eq_getElem hlt)).1
                have skip: ∀(z:Operand),e≠want -> (if e=true then x else y)=z -> b8v (b2p σe (b0w k os1)) z=some c -> ∃es σ1,Tr P Φ C k os1 σx es σ1 /\ (∀(j:Nat) (e:En U) (o:Oper),es[j]? =some e -> os1[j]? =some o -> e.ws=[] /\ Sub e.m (b7v C.ops o C.lim)) /\ (∀e∈es,e.ws=[]) /\ σ1.slot t'= .bool e /\ b8v σ1 (if e=true then x else y)=some c:=by
                 intro z hew hz hr
                 obtain ⟨es,σ1,g1,g2,g3,g4⟩:=e3s (P:=P) (Φ:=Φ) (C:=C) (k:=k) hgs hew os1 k σx (Nat.le_refl _) hsx (fun g' h1 h2=>by omega) hops0 hin hc4
                 obtain ⟨k1,k2⟩:=d6q g1 g2
                 refine ⟨es,σ1,g1,fun j e o he ho=>⟨g2 e (List.mem_of_getElem? he),g3 j e o he ho⟩,g2,g4,?_⟩
                 rw [hz]
                 refine c98 (σ:=b2p σe (b0w k os1)) ⟨fun tt=> ?_,fun id=> ?_⟩ hr
                 ·rcases c1p (b0w k os1) σe tt with h1 | ⟨h1,h2⟩
                  ·exact .inl h1
                  ·rw [h1]
                   rcases hless.1 tt with h3 | h3
                   ·exact .inl h3
                   ·right
                    rw [k2 tt fun o ho hd=> ?_]
                    ·exact h3
                    ·obtain ⟨j,hj⟩:=List.getElem?_of_mem ho
                     exact h2 _ (List.mem_of_getElem? (c67 os1 k j o hj)) hd
                 ·rw [k1 id,c4j,hless.2 id]
                cases want with
                | true=>
                  dsimp only at hcv
                  cases e with
                  | true=>exact run x rfl rfl (by simpa using hcv)
                  | false=>exact skip y (by simp) rfl (by simpa using hcv)
                | false=>
                  dsimp only at hcv
                  cases e with
                  | true=>exact skip x (by simp) rfl (by simpa using hcv)
                  | false=>exact run y rfl rfl (by simpa using hcv)
               obtain ⟨es,σ1,g1,g2,g3,g4,g5⟩:=hseg
               obtain ⟨k1,k2⟩:=d6q g1 g3
               have hctx1:c0n C ctx σ1:=f1v hctx (fun q hq=>List.all_eq_true.1 hc5 q hq) k2
               obtain ⟨mp,hstep,hmsub⟩:=e42 (P:=P) (Φ:=Φ) (C:=C) hp hc2 hctx1 g4 g5
               have hless1:e0g ((b2p σe (b0w k os1)).put (some d) (.bool c)) (σ1.app (some d) (.bool c) []):=by
                refine e0g.app (σ:=b2p σe (b0w k os1)) (σ':=σ1) ⟨fun tt=> ?_,fun id=> ?_⟩ (some d) (.bool c) []
                ·rcases c1p (b0w k os1) σe tt with h1 | ⟨h1,h2⟩
                 ·exact .inl h1
                 ·rw [h1]
                  rcases hless.1 tt with h3 | h3
                  ·exact .inl h3
                  ·right
                   rw [k2 tt fun o ho hd=> ?_]
                   ·exact h3
                   ·obtain ⟨j,hj⟩:=List.getElem?_of_mem ho
                    exact h2 _ (List.mem_of_getElem? (c67 os1 k j o hj)) hd
                ·rw [k1 id,c4j,hless.2 id]
               have hdst:op.dst=some d:=by
                unfold d5s at hp
                split at hp
                ·rename_i hd _;cases hp;exact hd
                ·cases hp
               rw [hos]
               have hTr2:Tr P Φ C k (os1++[op]) σx (es++[⟨some d,mp,.bool c,[]⟩]) (σ1.app (some d) (.bool c) []):=g1.append ⟨hstep,rfl⟩
               have hlg2: ∀(j:Nat) (e:En U) (o:Oper),(es++[(⟨some d,mp,.bool c,[]⟩:En U)])[j]? =some e -> (os1++[op])[j]? =some o -> e.ws=[] /\ Sub e.m (b7v C.ops o C.lim):=by
                intro j e o he ho
                rcases s9 he with ⟨hj,he⟩ | ⟨hj,he⟩
                ·rcases s9 ho with ⟨hj',ho⟩ | ⟨hj',ho⟩
                 ·exact g2 j e o he ho
                 ·have:=g1.len;omega
                ·rcases s9 ho with ⟨hj',ho⟩ | ⟨hj',ho⟩
                 ·have:=g1.len;omega
                 ·have hlen:=g1.len
                  rw [hlen] at he
                  cases hjj:j-os1.length with
                  | zero=>
                    rw [hjj] at he ho
                    simp at he ho
                    subst he;subst ho
                    exact ⟨rfl,hmsub⟩
                  | succ q=>rw [hjj] at he;simp at he
               rw [show os1++op::os2=(os1++[op])++os2 by simp]
               have hkeep: ∀t,(∀o∈os1++[op],o.dst≠some t) -> ((b2p σe (b0w k os1)).put (some d) (.bool c)).slot t=σe.slot t:=fun t ht=>by
                have e:((b2p σe (b0w k os1)).put (some d) (.bool c)).slot t=if some d=some t then .bool c else (b2p σe (b0w k os1)).slot t:=a4c (b2p σe (b0w k os1)) (some d) (.bool c) [] t
                rw [e,if_neg,c7z]
                ·intro q hq
                 obtain ⟨j,_,hj⟩:=d8a hq
                 exact ht q.2 (List.mem_append_left _ (List.mem_of_getElem? hj))
                ·rw [<- hdst];exact ht op (by simp)
               cases ctx with
               | nil=>
                 dsimp only at h
                 cases hol: !C.draw||b4g C (c8x C (b0w k os1++[(k+os1.length,op)])) hist with
                 | false=>rw [hol] at h;cases h
                 | true=>
                   rw [hol] at h
                   dsimp only at h
                   refine c3p.append (h1:=(c8x C (b0w k os1++[(k+os1.length,op)])).reverse++hist) hTr2 ⟨c8x C (b0w k os1++[(k+os1.length,op)]),rfl,fun hd=> ?_,?_,fun j e g he hg=> ?_⟩ hkeep ?_
                   ·rw [hd] at hol;simpa using hol
                   ·have:=g1.len
                    simp [c8x,d9n,this]
                   ·have he2:b0w k os1++[(k+os1.length,op)]=b0w k (os1++[op]):=by rw [c7o];rfl
                    rw [he2] at hg
                    exact e9m hTr2 hlg2 j e g he hg
                   ·have:=a81 n (k+os1.length+1) os2 [] _ _ K r h hops2 _ hless1 c0n.nil
                    simpa [Nat.add_assoc] using this
               | cons c0 ctx=>
                 dsimp only at h
                 refine c3p.append (h1:=hist) hTr2 ⟨rfl,hlg2⟩ hkeep ?_
                 have:=a81 n (k+os1.length+1) os2 (c0::ctx) _ _ K r h hops2 _ hless1 (hctx1.app hc3)
                 simpa [Nat.add_assoc] using this
end
end Go.SX
namespace Go.SX
open Go Go.PL
section
variable {P:Program} {U:Uni} {Φ:Phi U} {E:Env} {n:Nat} {ops:List Oper}
theorem Rel.congr {Z:Nat -> Prop} {π:Nat -> Value} {σ σ':U.St} {ρ:Nat -> Value} {w:World} (h:Rel E Z π σ ρ w) (hl:e0g σ' σ):Rel E Z π σ' ρ w:=by
 have hcx:cx Z π σ' w=cx Z π σ w:=by
  unfold cx;congr 1;funext id
  unfold c2r;rw [hl.2 id]
 refine ⟨fun t=> ?_,fun id=> ?_,fun id b hb=> ?_,fun id id' b hne hb hb'=> ?_,h.zlt,h.zin,h.zout,h.ext,fun id hp=>⟨by
  have:=(h.pin id hp).1
  unfold c2r at this ⊢; rwa [<- hl.2 id],(h.pin id hp).2⟩,h.tab⟩
 ·rw [hcx]
  rcases hl.1 t with h1 | h1
  ·rw [h1];trivial
  ·rw [<- h1];exact h.slot t
 ·rw [hcx,<- hl.2 id];exact h.mem id
 ·rw [<- hl.2 id] at hb;exact h.own id b hb
 ·rw [<- hl.2 id] at hb;rw [<- hl.2 id'] at hb';exact h.dist id id' b hne hb hb'
theorem e6g {Z:Nat -> Prop} {π:Nat -> Value} {σ:U.St} {ρ:Nat -> Value} {w:World} (h:Rel E Z π σ ρ w) {o:Oper} {m0 m:Nat} {v:U.AV} {ws:List (Nat×U.MC)} (hev:(e50 o.op:U.Q).Ev σ m0 m v ws):a68 P E σ ρ w o v ws:=by
 obtain ⟨d,op,ty,ps,af,g⟩:=o
 cases op<;>try exact hev.elim
 rename_i c a b
 obtain ⟨e,m1,he,hev⟩:=a0q h hev
 cases e<;>try exact hev.elim
 rename_i e
 cases e with
 | true=>
   obtain ⟨x,m2,hx,hm,rfl,rfl⟩:=a0q h hev
   exact k9 h (d9k he rfl) hx
 | false=>
   obtain ⟨x,m2,hx,hm,rfl,rfl⟩:=a0q h hev
   exact k9 h (d8q he rfl) hx
theorem e7d (hU:UOK U) (hΦ:OKΦ P Φ) (hT:Plan.okTmps ops n=true) (hS:Plan.okSel ops=true) {C:RegC} (hC:C.ops=ops) {i:Nat} {o:Oper} (ho:ops[i]? =some o) {Z:Nat -> Prop} {π:Nat -> Value} {σ:U.St} {ρ:Nat -> Value} {w:World} (h:Rel E Z π σ ρ w) {e:En U} (hs:c74 P Φ C i o σ e)
  {Q:Exit -> Act -> World -> Prop} {K:Act -> World -> Prop} {rr:Option Nat} {ds:List Deferred} (hK: ∀Z' π' u w',Rel E Z' π' (σ.app e.d e.v e.ws) (d2m ρ e.d u) w' -> K (Frd n (d2m ρ e.d u) ds) w'):wpOpIn (FR rr) 9 P ops.toArray Q i K (Frd n ρ ds) w:=by
 obtain ⟨hd,hs⟩:=hs
 have hboth: ∃q:U.Q,(gq C.ops o q).Ev σ 0 e.m e.v e.ws /\ ∀m0,q.Ev σ m0 e.m e.v e.ws -> a68 P E σ ρ w o e.v e.ws:=by
  rcases hs with hs | hs
  ·exact ⟨_,hs,fun m0 hh=>e85 hU hΦ h hh⟩
  ·exact ⟨_,hs,fun m0 hh=>e6g h hh⟩
 obtain ⟨q,hq,hgood⟩:=hboth
 unfold wpOpIn
 simp only [List.getElem?_toArray,ho]
 have hw:Region.wanted o (yielded ops.toArray (Frd n ρ ds).tmps)=Region.wanted o (yl ops ρ):=by
  congr 1
  funext g
  exact e0s hT ρ g
 rw [hw]
 have hdo:a68 P E σ ρ w o e.v e.ws -> o.wpIn (FR rr) 9 P (Frd n ρ ds) w K Q:=fun hg=>by
  refine a6m.wp (K:=fun v w'=> ∃Z' π',Rel E Z' π' (σ.app o.dst e.v e.ws) (d2m ρ o.dst v) w') ?_ ?_
  ·unfold a68 a6m at hg
   unfold a6m
   rwa [e7n hT hS ho ρ]
  ·rintro v w' ⟨Z',π',hR⟩
   rw [f5q]
   rw [<- hd] at hR⊢
   exact hK Z' π' _ w' hR
 have hskip:e.v= .undef -> e.ws=[] -> K ((Frd n ρ ds).put o.dst undef) w:=fun h1 h2=>by
  rw [f5q]
  have hR:=h.val (d:=o.dst) (a:= .undef) (v:=undef) (Ext.refl noG w) rfl
  rw [<- hd] at hR⊢
  refine hK Z π _ w ?_
  rw [h1,h2];exact hR
 unfold gq at hq
 cases hgd:o.guard with
 | none=>
   rw [hgd] at hq
   rw [if_pos (by simp [Region.wanted,hgd])]
   exact hdo (hgood _ hq)
 | some gw=>
   obtain ⟨g,want⟩:=gw
   rw [hgd] at hq
   dsimp only at hq
   cases hgs:c4y C.ops g with
   | none=>rw [hgs] at hq;exact hq.elim
   | some t=>
     rw [hgs] at hq
     have hbd:(ops[g]?).bind (·.dst)=some t:=by
      unfold c4y at hgs
      rw [hC] at hgs
      cases hx:ops[g]? with
      | none=>rw [hx] at hgs;cases hgs
      | some og=>rw [hx] at hgs;simpa using hgs
     have hq:SX.Q.Ev σ (match σ.slot t with | .bool b=>(match b==want with | true=>q | false=> .done .undef []) | .undef=> .done .undef [] | _=> .fail) (0 ||| 2^(2*t)) e.m e.v e.ws:=hq.2
     have hslot:=h.slot t
     cases hst:σ.slot t<;>rw [hst] at hq hslot<;>try exact hq.elim
     ·-- the guard's operation was passed over itself
      obtain ⟨_,h1,h2⟩:=hq
      have hslot:ρ t=undef:=hslot
      rw [if_neg]
      ·exact ⟨fun _ _=>trivial,hskip h1 h2⟩
      ·simp [Region.wanted,hgd,yl,hbd,hslot,undef]
     ·rename_i b
      have hslot:ρ t= .bool b:=hslot
      cases hb:b==want with
      | true=>
        have hq2:q.Ev σ (0 ||| 2^(2*t)) e.m e.v e.ws:=by
         have:=hq
         simp only [hb] at this
         exact this
        rw [if_pos]
        ·exact hdo (hgood _ hq2)
        ·have:b=want:=by simpa using hb
         simp [Region.wanted,hgd,yl,hbd,hslot,this]
      | false=>
        have hq2:(.done .undef []:U.Q).Ev σ (0 ||| 2^(2*t)) e.m e.v e.ws:=by
         have:=hq
         simp only [hb] at this
         exact this
        obtain ⟨_,h1,h2⟩:=hq2
        rw [if_neg]
        ·exact ⟨fun _ _=>trivial,hskip h1 h2⟩
        ·have:b≠want:=by intro e';rw [e'] at hb;simp at hb
         simp [Region.wanted,hgd,yl,hbd,hslot,this]
theorem d8v (hU:UOK U) (hΦ:OKΦ P Φ) (hT:Plan.okTmps ops n=true) (hS:Plan.okSel ops=true) {C:RegC} (hC:C.ops=ops) {Q:Exit -> Act -> World -> Prop} {rr:Option Nat} {ds:List Deferred}: ∀(os:List Oper) (k:Nat) (σ σ':U.St) (es:List (En U)),Tr P Φ C k os σ es σ' -> (∀(j:Nat) o,os[j]? =some o -> ops[k+j]? =some o) ->
  ∀ρ0:Nat -> Value,(∀Z π ρ w,(∀t,(∀o∈ops,o.dst≠some t) -> ρ t=ρ0 t) -> Rel E Z π σ' ρ w -> Q .normal (Frd n ρ ds) w) -> ∀Z π ρ w,(∀t,(∀o∈ops,o.dst≠some t) -> ρ t=ρ0 t) -> Rel E Z π σ ρ w -> wpOpsIn (FR rr) 9 P ops.toArray Q (List.range' k os.length) (Frd n ρ ds) w
 | [],k,σ,σ',[],ht,_,ρ0,hQ,Z,π,ρ,w,hk,h=>by
   have ht:σ'=σ:=ht
   subst ht
   exact hQ Z π ρ w hk h
 | o::os,k,σ,σ',e::es,ht,hops,ρ0,hQ,Z,π,ρ,w,hk,h=>by
   rw [List.length_cons,List.range'_succ,wpOpsIn_cons]
   have ho:ops[k]? =some o:=by simpa using hops 0 o rfl
   refine e7d hU hΦ hT hS hC ho h ht.1 fun Z' π' u w' hR=> ?_
   exact d8v hU hΦ hT hS hC os (k+1) _ σ' es ht.2 (fun j o' ho'=>by have:=hops (j+1) o' (by simpa using ho');rwa [show k+(j+1)=k+1+j by omega] at this) ρ0 hQ Z' π' _ w' (fun t ht'=>by
    rw [d6u,if_neg (by rw [ht.1.1];exact ht' o (List.mem_of_getElem? ho))];exact hk t ht') hR
 | [],_,_,_,_::_,h,_,_,_,_,_,_,_,_,_=>h.elim
 | _::_,_,_,_,[],h,_,_,_,_,_,_,_,_,_=>h.elim
def c64 (L:Nat -> Bool):Nat -> List (En U) -> U.St -> U.St
 | _,[],σ=>σ
 | k,e::es,σ=>c64 L (k+1) es (if L k=true then σ.app e.d e.v e.ws else σ)
theorem c03 {L:Nat -> Bool}: ∀(es:List (En U)) (k:Nat) (σ:U.St),(∀i,k <= i -> L i=false) -> c64 L k es σ=σ
 | [],_,_,_=>rfl
 | e::es,k,σ,h=>by
   simp only [c64,h k (Nat.le_refl _)]
   exact c03 es (k+1) σ fun i hi=>h i (by omega)
theorem d81 {C:RegC} {L:Nat -> Bool}: ∀(os:List Oper) (k:Nat) (σ σ':U.St) (es:List (En U)),Tr P Φ C k os σ es σ' -> (∀j,j<os.length -> L (k+j)=true) -> c64 L k es σ=σ'
 | [],k,σ,σ',[],ht,_=>by have ht:σ'=σ:=ht;rw [ht];rfl
 | o::os,k,σ,σ',e::es,ht,hL=>by
   have h0:=hL 0 (by simp)
   simp only [Nat.add_zero] at h0
   simp only [c64,h0,if_true]
   exact d81 os (k+1) _ σ' es ht.2 fun j hj=>by
    have:=hL (j+1) (by simpa using hj)
    rwa [show k+(j+1)=k+1+j by omega] at this
 | [],_,_,_,_::_,h,_=>h.elim
 | _::_,_,_,_,[],h,_=>h.elim
theorem d86 {C:RegC}: ∀(os:List Oper) (k:Nat) (σ σ':U.St) (es:List (En U)),Tr P Φ C k os σ es σ' -> ∀(j:Nat) (o:Oper) (e:En U),os[j]? =some o -> es[j]? =some e -> c74 P Φ C (k+j) o (c64 (fun i=>decide (i<k+j)) k es σ) e
 | [],k,σ,σ',[],ht,j,o,e,ho,_=>by simp at ho
 | o0::os,k,σ,σ',e0::es,ht,0,o,e,ho,he=>by
   simp at ho he
   subst ho;subst he
   rw [c03 _ _ _ fun i hi=>by simp;omega]
   exact ht.1
 | o0::os,k,σ,σ',e0::es,ht,j+1,o,e,ho,he=>by
   have:=d86 os (k+1) _ σ' es ht.2 j o e (by simpa using ho) (by simpa using he)
   have h0:decide (k<k+(j+1))=true:=by simp
   simp only [c64,h0,if_true]
   rwa [show k+1+j=k+(j+1) by omega] at this
 | [],_,_,_,_::_,h,_,_,_,_,_=>h.elim
 | _::_,_,_,_,[],h,_,_,_,_,_=>h.elim
theorem c2y {L L':Nat -> Bool} (t:Nat): ∀(es:List (En U)) (k:Nat) (σ σ':U.St),σ.slot t=σ'.slot t -> (∀(j:Nat) (e:En U),es[j]? =some e -> e.d=some t -> L (k+j)=L' (k+j)) -> (c64 L k es σ).slot t=(c64 L' k es σ').slot t
 | [],k,σ,σ',h,_=>h
 | e::es,k,σ,σ',h,hL=>by
   refine c2y t es (k+1) _ _ ?_ fun j e' he' hd=>by
    have:=hL (j+1) e' (by simpa using he') hd
    rwa [show k+(j+1)=k+1+j by omega] at this
   by_cases hd:e.d=some t
   ·have:=hL 0 e rfl hd
    simp only [Nat.add_zero] at this
    rw [this]
    split
    ·rw [a4c,a4c,if_pos hd,if_pos hd]
    ·exact h
   ·have h1: ∀(b:Bool) (σ:U.St),(if b=true then σ.app e.d e.v e.ws else σ).slot t=σ.slot t:=fun b σ=>by
     split
     ·rw [a4c,if_neg hd]
     ·rfl
    rw [h1,h1];exact h
theorem c62 {L L':Nat -> Bool} (id:Nat): ∀(es:List (En U)) (k:Nat) (σ σ':U.St),σ.mem id=σ'.mem id -> (∀(j:Nat) (e:En U) m,es[j]? =some e -> lk id e.ws=some m -> L (k+j)=L' (k+j)) -> (c64 L k es σ).mem id=(c64 L' k es σ').mem id
 | [],k,σ,σ',h,_=>h
 | e::es,k,σ,σ',h,hL=>by
   refine c62 id es (k+1) _ _ ?_ fun j e' m he' hd=>by
    have:=hL (j+1) e' m (by simpa using he') hd
    rwa [show k+(j+1)=k+1+j by omega] at this
   cases hd:lk id e.ws with
   | some m=>
     have:=hL 0 e m rfl hd
     simp only [Nat.add_zero] at this
     rw [this]
     split
     ·rw [a2c,a2c,hd]
     ·exact h
   | none=>
     have h1: ∀(b:Bool) (σ:U.St),(if b=true then σ.app e.d e.v e.ws else σ).mem id=σ.mem id:=fun b σ=>by
      split
      ·rw [a2c,hd]
      ·rfl
     rw [h1,h1];exact h
theorem c9v {L:Nat -> Bool} (t:Nat): ∀(es:List (En U)) (k p:Nat) (σ:U.St) (e:En U),es[p]? =some e -> L (k+p)=true -> e.d=some t -> (∀(j:Nat) (e':En U),p<j -> es[j]? =some e' -> e'.d=some t -> L (k+j)=false) -> (c64 L k es σ).slot t=e.v
 | [],k,p,σ,e,he,_,_,_=>by simp at he
 | e0::es,k,0,σ,e,he,hL,hd,hno=>by
   simp at he
   subst he
   simp only [Nat.add_zero] at hL
   simp only [c64,hL,if_true]
   rw [c2y (L':=fun _=>false) t es (k+1) _ (σ.app e0.d e0.v e0.ws) rfl fun j e' he' hd'=>by
    have:=hno (j+1) e' (by omega) (by simpa using he') hd'
    rwa [show k+(j+1)=k+1+j by omega] at this]
   rw [c03 _ _ _ fun _ _=>rfl,a4c,if_pos hd]
 | e0::es,k,p+1,σ,e,he,hL,hd,hno=>by
   simp only [c64]
   refine c9v t es (k+1) p _ e (by simpa using he) (by rwa [show k+1+p=k+(p+1) by omega]) hd fun j e' hj he' hd'=> ?_
   have:=hno (j+1) e' (by omega) (by simpa using he') hd'
   rwa [show k+(j+1)=k+1+j by omega] at this
theorem d0m {L:Nat -> Bool} (id:Nat): ∀(es:List (En U)) (k p:Nat) (σ:U.St) (e:En U) (m:U.MC),es[p]? =some e -> L (k+p)=true -> lk id e.ws=some m -> (∀(j:Nat) (e':En U) m',p<j -> es[j]? =some e' -> lk id e'.ws=some m' -> L (k+j)=false) -> (c64 L k es σ).mem id=m
 | [],k,p,σ,e,m,he,_,_,_=>by simp at he
 | e0::es,k,0,σ,e,m,he,hL,hd,hno=>by
   simp at he
   subst he
   simp only [Nat.add_zero] at hL
   simp only [c64,hL,if_true]
   rw [c62 (L':=fun _=>false) id es (k+1) _ (σ.app e0.d e0.v e0.ws) rfl fun j e' m' he' hd'=>by
    have:=hno (j+1) e' m' (by omega) (by simpa using he') hd'
    rwa [show k+(j+1)=k+1+j by omega] at this]
   rw [c03 _ _ _ fun _ _=>rfl,a2c,hd]
 | e0::es,k,p+1,σ,e,m,he,hL,hd,hno=>by
   simp only [c64]
   refine d0m id es (k+1) p _ e m (by simpa using he) (by rwa [show k+1+p=k+(p+1) by omega]) hd fun j e' m' hj he' hd'=> ?_
   have:=hno (j+1) e' m' (by omega) (by simpa using he') hd'
   rwa [show k+(j+1)=k+1+j by omega] at this
def c2c (acc:List Nat) (o:Oper):Nat:=o.after.toList.foldl (fun s e=>bif Region.binds .any e then s ||| 2^e.on ||| acc.getD e.on 0 else s) 0
theorem d38 {acc:List Nat} {o:Oper} {i:Nat} (h:(c2c acc o).testBit i=true): ∃x∈o.after,Region.binds .any x=true /\ (x.on=i \/ (acc.getD x.on 0).testBit i=true):=by
 have key: ∀(l:List Edge) (s:Nat),(l.foldl (fun s e=>bif Region.binds .any e then s ||| 2^e.on ||| acc.getD e.on 0 else s) s).testBit i=true -> s.testBit i=true \/ ∃x∈l,Region.binds .any x=true /\ (x.on=i \/ (acc.getD x.on 0).testBit i=true):=by
  intro l
  induction l with
  | nil=>intro s h;exact .inl h
  | cons e l ih=>
    intro s h
    rcases ih _ h with h1 | ⟨x,hx,h1⟩
    ·dsimp only at h1
     cases hb:Region.binds .any e with
     | false=>rw [hb] at h1;exact .inl h1
     | true=>
       rw [hb] at h1
       simp only [cond_true,Nat.testBit_or,Nat.testBit_two_pow,Bool.or_eq_true,decide_eq_true_eq] at h1
       rcases h1 with (h1 | h1) | h1
       ·exact .inl h1
       ·exact .inr ⟨e,List.mem_cons_self,hb,.inl h1⟩
       ·exact .inr ⟨e,List.mem_cons_self,hb,.inr h1⟩
    ·exact .inr ⟨x,List.mem_cons_of_mem _ hx,h1⟩
 rcases key _ _ h with h1 | ⟨x,hx,h1⟩
 ·simp at h1
 ·exact ⟨x,Array.mem_toList_iff.1 hx,h1⟩
theorem e5u: ∀(os:List Oper) (acc:List Nat) (j:Nat),acc.length <= j -> j<acc.length+os.length -> ∃acc' o,os[j-acc.length]? =some o /\ (os.foldl (fun acc o=>acc++[c2c acc o]) acc).getD j 0=c2c acc' o /\ acc'.length=j /\ ∀q,q<j -> acc'.getD q 0=(os.foldl (fun acc o=>acc++[c2c acc o]) acc).getD q 0
 | [],acc,j,h1,h2=>by simp at h2;omega
 | o::os,acc,j,h1,h2=>by
   have pre: ∀(os:List Oper) (acc:List Nat) (q:Nat),q<acc.length -> (os.foldl (fun acc o=>acc++[c2c acc o]) acc).getD q 0=acc.getD q 0:=by
    intro os
    induction os with
    | nil=>intro acc q hq;rfl
    | cons o os ih=>
      intro acc q hq
      simp only [List.foldl_cons]
      rw [ih _ q (by simp;omega)]
      simp [List.getD_eq_getElem?_getD,List.getElem?_append_left hq]
   simp only [List.foldl_cons]
   rcases Nat.lt_or_ge acc.length j with hj | hj
   ·obtain ⟨acc',o',g1,g2,g3,g4⟩:=e5u os (acc++[c2c acc o]) j (by simp;omega) (by simp at h2 ⊢; omega)
    refine ⟨acc',o',?_,g2,g3,g4⟩
    simp only [List.length_append,List.length_singleton] at g1
    rw [show j-acc.length=(j-(acc.length+1))+1 by omega]
    simpa using g1
   ·have hje:j=acc.length:=by omega
    subst hje
    refine ⟨acc,o,by simp,?_,rfl,fun q hq=> ?_⟩
    ·rw [pre _ _ _ (by simp)]
     simp [List.getD_eq_getElem?_getD]
    ·rw [pre _ _ _ (by simp;omega)]
     simp [List.getD_eq_getElem?_getD,List.getElem?_append_left hq]
theorem e3x {i j:Nat} (hj:j<ops.length) (h:((f9z ops).getD j 0).testBit i=true): ∃o,ops[j]? =some o /\ ∃x∈o.after,Region.binds .any x=true /\ (x.on=i \/ (x.on<j /\ ((f9z ops).getD x.on 0).testBit i=true)):=by
 obtain ⟨acc',o,h1,h2,h3,h4⟩:=e5u ops [] j (Nat.zero_le _) (by simpa using hj)
 have e:f9z ops=ops.foldl (fun acc o=>acc++[c2c acc o]) []:=d92 ops []
 rw [e] at h
 rw [h2] at h
 obtain ⟨x,hx,hb,hh⟩:=d38 h
 refine ⟨o,by simpa using h1,x,hx,hb,?_⟩
 rcases hh with hh | hh
 ·exact .inl hh
 ·right
  rcases Nat.lt_or_ge x.on j with hlt | hge
  ·refine ⟨hlt,?_⟩
   rw [e,<- h4 _ hlt];exact hh
  ·rw [List.getD_eq_getElem?_getD,List.getElem?_eq_none (by omega)] at hh
   simp at hh
theorem c7a {L:Nat -> Prop} (hL: ∀j o,ops[j]? =some o -> L j -> ∀x∈o.after,Region.binds .any x=true -> L x.on) (hlen: ∀j,L j -> j<ops.length): ∀(j i:Nat),j<ops.length -> (∀o,ops[j]? =some o -> ∀x∈o.after,Region.binds .any x=true -> L x.on) -> ((f9z ops).getD j 0).testBit i=true -> L i:=by
 intro j
 induction j using Nat.strongRecOn with
 | _ j ih=>
   intro i hj hp h
   obtain ⟨o,ho,x,hx,hb,hh⟩:=e3x hj h
   have hxL:=hp o ho x hx hb
   rcases hh with hh | ⟨hlt,hh⟩
   ·rw [<- hh];exact hxL
   ·exact ih x.on hlt i (hlen _ hxL) (fun o' ho'=>hL _ o' ho' hxL) hh
theorem c6u {C:RegC}: ∀(lg hist:List (Nat×Nat×Nat)),b4g C lg hist=true -> ∀(j:Nat) g,lg[j]? =some g -> d6e (C.bef.getD g.1 0) g.2.1 g.2.2 hist=true /\ ∀(i:Nat) g',i<j -> lg[i]? =some g' -> (C.bef.getD g.1 0).testBit g'.1=true \/ (g.2.2 &&& (g'.2.1 ||| g'.2.2)=0 /\ g'.2.2 &&& g.2.1=0)
 | [],hist,_,j,g,hg=>by simp at hg
 | e::lg,hist,h,0,g,hg=>by
   simp at hg
   subst hg
   simp only [b4g,Bool.and_eq_true] at h
   exact ⟨h.1,fun i g' hi=>absurd hi (Nat.not_lt_zero _)⟩
 | e::lg,hist,h,j+1,g,hg=>by
   simp only [b4g,Bool.and_eq_true] at h
   obtain ⟨h1,h2⟩:=c6u lg (e::hist) h.2 j g (by simpa using hg)
   unfold d6e at h1
   simp only [List.all_cons,Bool.and_eq_true,Bool.or_eq_true] at h1
   refine ⟨h1.2,fun i g' hi hg'=> ?_⟩
   cases i with
   | zero=>
     simp at hg'
     subst hg'
     rcases h1.1 with h3 | h3
     ·exact .inl h3
     ·exact .inr ⟨Nat.eq_of_beq_eq_true h3.1,Nat.eq_of_beq_eq_true h3.2⟩
   | succ i=>exact h2 i g' (by omega) (by simpa using hg')
end
end Go.SX
namespace Go.SX
open Go Go.PL
section
variable {P:Program} {U:Uni} {Φ:Phi U} {E:Env} {n:Nat} {ops:List Oper}
theorem d87 {a b k:Nat} (h:a &&& b=0) (ha:a.testBit k=true) (hb:b.testBit k=true):False:=by
 have:(a &&& b).testBit k=true:=by rw [Nat.testBit_and,ha,hb];rfl
 rw [h] at this;simp at this
structure LogOK (C:RegC) (es:List (En U)) (lg:List (Nat×Nat×Nat)):Prop where
 len:lg.length=es.length
 at_: ∀(j:Nat) (e:En U) (g:Nat×Nat×Nat),es[j]? =some e -> lg[j]? =some g -> g.1=j /\ Sub e.m g.2.1 /\ g3v e g.2.2
 ok:b4g C lg []=true
theorem LogOK.pair {C:RegC} {es:List (En U)} {lg:List (Nat×Nat×Nat)} (h:LogOK C es lg) {i j:Nat} {ei ej:En U} (hij:i<j) (hi:es[i]? =some ei) (hj:es[j]? =some ej):
  (C.bef.getD j 0).testBit i=true \/ ∀k,((∃m,k=2*m /\ ej.d=some m) \/ (∃id m,k=2*id+1 /\ lk id ej.ws=some m) -> ei.m.testBit k=true \/ (∃m,k=2*m /\ ei.d=some m) \/ (∃id m,k=2*id+1 /\ lk id ei.ws=some m) -> False) /\ ((∃m,k=2*m /\ ei.d=some m) \/ (∃id m,k=2*id+1 /\ lk id ei.ws=some m) -> ej.m.testBit k=true -> False):=by
 have hli:i<lg.length:=by rw [h.len];exact (List.getElem?_eq_some_iff.1 hi).1
 have hlj:j<lg.length:=by rw [h.len];exact (List.getElem?_eq_some_iff.1 hj).1
 obtain ⟨a1,a2,a3⟩:=h.at_ i ei _ hi (List.getElem?_eq_getElem hli)
 obtain ⟨b1,b2,b3⟩:=h.at_ j ej _ hj (List.getElem?_eq_getElem hlj)
 have hp:=(c6u lg [] h.ok j _ (List.getElem?_eq_getElem hlj)).2 i _ hij (List.getElem?_eq_getElem hli)
 rw [a1,b1] at hp
 have wbit: ∀{e:En U} {w k:Nat},g3v e w -> ((∃m,k=2*m /\ e.d=some m) \/ (∃id m,k=2*id+1 /\ lk id e.ws=some m)) -> w.testBit k=true:=by
  intro e w k hw hk
  rcases hk with ⟨m,rfl,hm⟩ | ⟨id,m,rfl,hm⟩
  ·exact hw.1 m hm
  ·exact hw.2 id m hm
 rcases hp with hp | ⟨h1,h2⟩
 ·exact .inl hp
 ·refine .inr fun k=>⟨fun hw hr=> ?_,fun hw hr=> ?_⟩
  ·refine d87 h1 (wbit b3 hw) ?_
   rw [Nat.testBit_or]
   rcases hr with hr | hr
   ·rw [a2 k hr];rfl
   ·rw [wbit a3 hr];simp
  ·exact d87 h2 (wbit a3 hw) (b2 k hr)
theorem f1g (hU:UOK U) (hΦ:OKΦ P Φ) (hT:Plan.okTmps ops n=true) (hS:Plan.okSel ops=true) (hA:Plan.okAfter ops=true) {C:RegC} (hC:C.ops=ops) (hB:C.bef=f9z ops) {σ0 σn:U.St} {es:List (En U)} {lg:List (Nat×Nat×Nat)} (ht:Tr P Φ C 0 ops σ0 es σn) (hlg:LogOK C es lg)
  {Q:Exit -> Act -> World -> Prop} {rr:Option Nat} {ds:List Deferred} {ρ0:Nat -> Value} (hQ: ∀Z π ρ w,(∀t,(∀o∈ops,o.dst≠some t) -> ρ t=ρ0 t) -> Rel E Z π σn ρ w -> Q .normal (Frd n ρ ds) w):
  ∀(fuel:Nat) (listed:Array Bool) (ρ:Nat -> Value) (w:World),listed.size=ops.length -> (∀l:List Nat,l.Nodup -> (∀i∈l,listed.getD i true=false) -> l.length <= fuel) ->
   (∀(j:Nat) (o:Oper),ops[j]? =some o -> listed.getD j false=true -> ∀x∈o.after,Region.binds .any x=true -> listed.getD x.on false=true) ->
   (∀t,(∀o∈ops,o.dst≠some t) -> ρ t=ρ0 t) -> (∃Z π,Rel E Z π (c64 (fun k=>listed.getD k false) 0 es σ0) ρ w) -> wpAnyIn (FR rr) 9 P .any ops.toArray Q fuel listed (Frd n ρ ds) w:=by
 have hall: ∀(listed:Array Bool),listed.size=ops.length -> Region.ready .any ops.toArray listed=[] -> ∀i,i<ops.length -> listed.getD i false=true:=by
  intro listed hsz hr i
  induction i using Nat.strongRecOn with
  | _ i ih=>
    intro hi
    cases hl:listed.getD i false with
    | true=>rfl
    | false=>
      exfalso
      have hi':i<listed.size:=by omega
      have hm:i∈Region.ready .any ops.toArray listed:=by
       rw [mem_ready]
       refine ⟨by simp [hi'] at hl ⊢; exact hl,ops[i],by simp [hi],fun x hx hb=> ?_⟩
       have h1:=e5e hA hi
       rw [List.getElem?_eq_getElem hi] at h1
       have h2:=List.all_eq_true.1 h1 x (Array.mem_toList_iff.2 hx)
       simp only [hb,Bool.not_true,Bool.false_or,decide_eq_true_eq] at h2
       exact ih x.on h2 (by omega)
      rw [hr] at hm
      cases hm
 have hend: ∀(listed:Array Bool) (ρ:Nat -> Value) (w:World),listed.size=ops.length -> Region.ready .any ops.toArray listed=[] ->
   (∀t,(∀o∈ops,o.dst≠some t) -> ρ t=ρ0 t) -> (∃Z π,Rel E Z π (c64 (fun k=>listed.getD k false) 0 es σ0) ρ w) -> Q .normal (Frd n ρ ds) w:=by
  rintro listed ρ w hsz hr hk ⟨Z,π,hR⟩
  rw [d81 ops 0 σ0 σn es ht fun j hj=>by simpa using hall listed hsz hr j hj] at hR
  exact hQ Z π ρ w hk hR
 intro fuel
 induction fuel with
 | zero=>
   intro listed ρ w hsz hlen hcl hk hJ
   have hr:Region.ready .any ops.toArray listed=[]:=by
    cases hr:Region.ready .any ops.toArray listed with
    | nil=>rfl
    | cons x xs=>
      have hx:x∈Region.ready .any ops.toArray listed:=by rw [hr];simp
      have:=hlen [x] (by simp) (by simpa using (mem_ready.1 hx).1)
      simp at this
   exact ⟨hr,hend listed ρ w hsz hr hk hJ⟩
 | succ fuel ih=>
   intro listed ρ w hsz hlen hcl hk hJ
   refine ⟨fun hr=>hend listed ρ w hsz hr hk hJ,fun i hi=> ?_⟩
   obtain ⟨hun,o,ho,haft⟩:=mem_ready.1 hi
   have ho':ops[i]? =some o:=by simpa using ho
   have hilt:i<ops.length:=(List.getElem?_eq_some_iff.1 ho').1
   have hil:i<listed.size:=by rw [hsz];exact hilt
   have hunl:listed.getD i false=false:=by simp [hil] at hun ⊢; exact hun
   obtain ⟨Z,π,hR⟩:=hJ
   have hilt':i<es.length:=by rw [ht.len];exact hilt
   obtain ⟨e,he⟩: ∃e,es[i]? =some e:=⟨es[i],List.getElem?_eq_getElem hilt'⟩
   have hex:=d86 ops 0 σ0 σn es ht i o e ho' he
   rw [Nat.zero_add] at hex
   have hblt: ∀j,listed.getD j false=true -> j<ops.length:=fun j hj=>by
    rcases Nat.lt_or_ge j listed.size with h1 | h1
    ·omega
    ·simp [Array.getD,Nat.not_lt.2 h1] at hj
   have hpre: ∀j,(C.bef.getD i 0).testBit j=true -> listed.getD j false=true:=fun j hj=>by
    rw [hB] at hj
    refine c7a (L:=fun k=>listed.getD k false=true) hcl hblt i j hilt (fun o' ho''=> ?_) hj
    rw [ho'] at ho'';cases ho''
    intro x hx hb
    exact haft x hx hb
   have hpost: ∀j,j<ops.length -> (C.bef.getD j 0).testBit i=true -> listed.getD j false=false:=fun j hj hb=>by
    cases hl:listed.getD j false with
    | false=>rfl
    | true=>
      rw [hB] at hb
      have:=c7a (L:=fun k=>listed.getD k false=true) hcl hblt j i hj (fun o' ho''=>hcl j o' ho'' hl) hb
      rw [hunl] at this;cases this
   have hjlt: ∀(j:Nat) (e':En U),es[j]? =some e' -> j<ops.length:=fun j e' h=>by rw [<- ht.len];exact (List.getElem?_eq_some_iff.1 h).1
   have hagr:g38 (c64 (fun k=>decide (k<i)) 0 es σ0) (c64 (fun k=>listed.getD k false) 0 es σ0) e.m:=by
    have main: ∀(k j:Nat) (e':En U),es[j]? =some e' -> ((∃m,k=2*m /\ e'.d=some m) \/ (∃id m,k=2*id+1 /\ lk id e'.ws=some m)) -> e.m.testBit k=true -> listed.getD j false=decide (j<i):=by
     intro k j e' hj hw hr
     rcases Nat.lt_trichotomy j i with hlt | heq | hgt
     ·rcases hlg.pair hlt hj he with h1 | h1
      ·rw [hpre j h1];simp [hlt]
      ·exact ((h1 k).2 hw hr).elim
     ·rw [heq,hunl];simp
     ·rcases hlg.pair hgt he hj with h1 | h1
      ·rw [hpost j (hjlt j e' hj) h1];simp;omega
      ·exact ((h1 k).1 hw (.inl hr)).elim
    refine ⟨fun t hb=>c2y t es 0 σ0 σ0 rfl fun j e' hj hd=> ?_,fun id hb=>c62 id es 0 σ0 σ0 rfl fun j e' m hj hd=> ?_⟩
    ·rw [Nat.zero_add];exact main (2*t) j e' hj (.inl ⟨t,rfl,hd⟩) hb
    ·rw [Nat.zero_add];exact main (2*id+1) j e' hj (.inr ⟨id,m,rfl,hd⟩) hb
   have hstep:c74 P Φ C i o (c64 (fun k=>listed.getD k false) 0 es σ0) e:=by
    refine ⟨hex.1,?_⟩
    rcases hex.2 with h1 | h1
    ·exact .inl (d97 h1 hagr)
    ·exact .inr (d97 h1 hagr)
   refine e7d hU hΦ hT hS hC ho' hR hstep fun Z' π' u w' hR'=> ?_
   have heq: ∀k,(listed.setIfInBounds i true).getD k false=if k=i then true else listed.getD k false:=by
    intro k
    by_cases hk:k=i
    ·subst hk;simp [hil]
    ·rw [getD_set_ne false (Ne.symm hk)];simp [hk]
   have hww: ∀(k j:Nat) (e':En U),i<j -> es[j]? =some e' -> ((∃m,k=2*m /\ e'.d=some m) \/ (∃id m,k=2*id+1 /\ lk id e'.ws=some m)) -> ((∃m,k=2*m /\ e.d=some m) \/ (∃id m,k=2*id+1 /\ lk id e.ws=some m)) -> listed.getD j false=false:=by
    intro k j e' hlt hj hw hw2
    rcases hlg.pair hlt he hj with h1 | h1
    ·exact hpost j (hjlt j e' hj) h1
    ·exact ((h1 k).1 hw (.inr hw2)).elim
   have hless:e0g (c64 (fun k=>(listed.setIfInBounds i true).getD k false) 0 es σ0) ((c64 (fun k=>listed.getD k false) 0 es σ0).app e.d e.v e.ws):=by
    refine ⟨fun t=> .inr ?_,fun id=> ?_⟩
    ·rw [a4c]
     split
     ·rename_i hd
      rw [c9v t es 0 i σ0 e he (by rw [Nat.zero_add,heq];simp) hd fun j e' hj he' hd'=> ?_]
      rw [Nat.zero_add,heq,if_neg (by omega)]
      exact hww (2*t) j e' hj he' (.inl ⟨t,rfl,hd'⟩) (.inl ⟨t,rfl,hd⟩)
     ·rename_i hd
      refine c2y t es 0 σ0 σ0 rfl fun j e' hj hd'=> ?_
      rw [Nat.zero_add,heq,if_neg]
      intro hji
      subst hji
      rw [he] at hj;cases hj
      exact hd hd'
    ·rw [a2c]
     cases hd:lk id e.ws with
     | some m=>
       refine (d0m id es 0 i σ0 e m he (by rw [Nat.zero_add,heq];simp) hd fun j e' m' hj he' hd'=> ?_).symm
       rw [Nat.zero_add,heq,if_neg (by omega)]
       exact hww (2*id+1) j e' hj he' (.inr ⟨id,m',rfl,hd'⟩) (.inr ⟨id,m,rfl,hd⟩)
     | none=>
       refine (c62 id es 0 σ0 σ0 rfl fun j e' m' hj hd'=> ?_).symm
       rw [Nat.zero_add,heq,if_neg]
       intro hji
       subst hji
       rw [he] at hj;cases hj
       rw [hd] at hd';cases hd'
   refine ih _ _ _ (by simpa using hsz) (fun l hnd hl=> ?_) (fun j o' hoj hlj x hx hb=> ?_) (fun t ht'=>by
    rw [d6u,if_neg (by rw [hstep.1];exact ht' o (List.mem_of_getElem? ho'))];exact hk t ht') ⟨Z',π',hR'.congr hless⟩
   ·have h1:=hlen (i::l) (by
     refine List.nodup_cons.2 ⟨fun hm=> ?_,hnd⟩
     have:=hl i hm
     simp [hil] at this) (by
     intro j hj
     cases hj with
     | head=>exact hun
     | tail _ hj=>
       have h2:=hl j hj
       by_cases hji:j=i
       ·subst hji;exact hun
       ·rwa [getD_set_ne true (Ne.symm hji)] at h2)
    simpa using h1
   ·rw [heq] at hlj⊢
    split
    ·rfl
    ·split at hlj
     ·rename_i hji
      subst hji
      rw [ho'] at hoj;cases hoj
      exact haft x hx hb
     ·exact hcl j o' hoj hlj x hx hb
theorem e5w (hU:UOK U) (hΦ:OKΦ P Φ) (hm:P.follows .mixedOrders=true) (hT:Plan.okTmps ops n=true) (hS:Plan.okSel ops=true) (hA:Plan.okAfter ops=true) {id:Nat} {draw:Bool} {R:Type} {σ:U.St} {K:U.St -> Option R} {r:R} {sp:List Nat} (h:d46 P Φ sp ops draw σ K=some r)
  {Q:Exit -> (Nat -> Value) -> World -> Prop} {Z:Nat -> Prop} {π:Nat -> Value} {ρ:Nat -> Value} {w:World} (hK: ∀σ' Z π ρ' w,(∀t,(∀o∈ops,o.dst≠some t) -> ρ' t=ρ t) -> Rel E Z π σ' ρ' w -> K σ'=some r -> Q .normal ρ' w) (hR:Rel E Z π σ ρ w):WP P n (.region id ops.toArray draw) Q ρ w:=by
 obtain ⟨C,hC⟩: ∃C:RegC,C=⟨σ.nx,ops,befD ops draw,draw,σ.nx+16*ops.length,sp⟩:=⟨_,rfl⟩
 have hrun:b3j P Φ C (ops.length+1) (b0w 0 ops) [] [] σ (fun _ σ'=>K ⟨σ'.sl,σ'.me,σ.nx+16*ops.length⟩)=some r:=by rw [hC];exact h
 obtain ⟨es,σx,σe,hist,h1,h2,h3,h4,⟨lg,h5,h6,h7,h8⟩,hkp⟩:=a81 _ 0 ops [] [] σ _ r hrun (fun j o ho=>by rw [hC,Nat.zero_add];exact ho) σ ⟨fun t=> .inr rfl,fun _=>rfl⟩ c0n.nil
 have hops:C.ops=ops:=by rw [hC]
 intro rr ds _
 have hfin: ∀Z π ρ1 w,(∀t,(∀o∈ops,o.dst≠some t) -> ρ1 t=ρ t) -> Rel E Z π σx ρ1 w -> (∃ρ',Frd n ρ1 ds=Frd n ρ' ds /\ Q .normal ρ' w):=fun Z π ρ1 w hk hR=>by
  refine ⟨ρ1,rfl,hK ⟨σe.sl,σe.me,σ.nx+16*ops.length⟩ Z π ρ1 w hk (Rel.congr hR (σ':=⟨σe.sl,σe.me,σ.nx+16*ops.length⟩) ⟨fun t=> ?_,fun id=> ?_⟩) h4⟩
  ·exact h2.1 t
  ·exact h2.2 id
 cases draw with
 | false=>
   refine wpIn_region ?_
   have:=d8v (n:=n) (rr:=rr) (ds:=ds) (Q:=fun e a w=> ∃ρ',a=Frd n ρ' ds /\ Q e ρ' w) hU hΦ hT hS hops ops 0 σ σx es h1 (fun j o ho=>by rw [Nat.zero_add];exact ho) ρ hfin Z π ρ w (fun _ _=>rfl) hR
   rw [List.range_eq_range']
   simpa using this
 | true=>
   refine wpIn_region_any hm ?_
   have hdraw:C.draw=true:=by rw [hC]
   have:=f1g (n:=n) (rr:=rr) (ds:=ds) (Q:=fun e a w=> ∃ρ',a=Frd n ρ' ds /\ Q e ρ' w) hU hΦ hT hS hA hops (by rw [hC];rfl) h1 ⟨h7,fun j e g he hg=>by have:=h8 j e g he hg;rwa [Nat.zero_add] at this,h6 hdraw⟩ (ρ0:=ρ) hfin
    ops.length (Array.replicate ops.length false) ρ w.drew (by simp) (fun l hnd hl=>by
     have hlt: ∀i∈l,i<ops.length:=by
      intro i hi
      have h1:=hl i hi
      rcases Nat.lt_or_ge i ops.length with h2 | h2
      ·exact h2
      ·simp [h2] at h1
     exact b9d _ l hnd hlt) (fun j o ho hl=>by
      exfalso
      rcases Nat.lt_or_ge j ops.length with h2 | h2
      ·simp [h2] at hl
      ·simp [h2] at hl) (fun _ _=>rfl) ⟨Z,π,by
      rw [c03 _ _ _ fun i _=>by
       rcases Nat.lt_or_ge i ops.length with h2 | h2
       ·simp [h2]
       ·simp [h2]]
      have hv:=hR.val (d:=none) (a:= .unk) (v:=undef) (w':=w.drew) (Ext.refl noG w).drew trivial
      exact hv⟩
   rw [show ops.toArray.size=ops.length from List.size_toArray]
   exact this
end
end Go.SX
namespace Go.SX
open Go Go.PL
section
variable {P:Program} {U:Uni} {Φ:Phi U} {E:Env} {n:Nat}
theorem e1e {p:EK U.C}: ∀(es:List (EK U.C)) (x:p.T U) (xs:Keep U es),a8s es (f8m es x xs)=x
 | [],_,_=>rfl
 | _::_,_,_=>rfl
theorem e1a {p:EK U.C}: ∀(es:List (EK U.C)) (x:p.T U) (xs:Keep U es),a6y es (f8m es x xs)=xs
 | [],_,()=>rfl
 | _::_,_,_=>rfl
theorem a6v {p:EK U.C} {es:List (EK U.C)} {x:Option (p.T U)} {y:Option (Keep U es)} {r:Keep U (p::es)} (h:d98 es x y=some r):x=some (a8s es r) /\ y=some (a6y es r):=by
 unfold d98 at h
 split at h
 ·split at h
  ·cases h;rw [e1e,e1a];exact ⟨rfl,rfl⟩
  ·cases h
 ·cases h
theorem a2f {α β:Type} {x:Option α} {y:Option β} {r:α×β} (h:c92 x y=some r):x=some r.1 /\ y=some r.2:=by
 unfold c92 at h
 split at h
 ·split at h
  ·cases h;exact ⟨rfl,rfl⟩
  ·cases h
 ·cases h
theorem d01 (hU:UOK U) {c:U.C} {a:U.AV} {x:U.T c} (hp:prj c a=some x):c05 a=true:=by
 cases a<;>first
  | rfl
  | (exfalso
     unfold prj at hp
     cases hag:U.ag c<;>rw [hag] at hp<;>try (cases hp;done)
     have hk:=hU.mkl c _ x hp
     have hkd:=hU.kind c x
     cases hl:U.flds c x with
     | nil=>rw [hl] at hk;exact hk.elim
     | cons b r=>
       rw [hl] at hk hkd
       simp only [List.all_cons,Bool.and_eq_true] at hkd
       rcases hk.1 with h1 | ⟨h1,_⟩
       ·rw [<- h1] at hkd;cases hkd.1
       ·cases h1)
theorem e6v {X:Cx} {c:U.C} {a:U.AV} {l:List (U.T c)} (h:f6m c a=some l) {u:Value} (hr:AVR X a u):s5 (Rp c) X.G X.w u l:=by
 unfold f6m at h
 split at h
 ·obtain ⟨he,hx⟩:=a5u (G:=noG) (w:=X.w) h
  subst he;subst hx;exact hr
 ·cases h
  exact .inl ⟨hr,rfl⟩
 ·cases h
theorem e7h {E:Env} {Z:Nat -> Prop} {π:Nat -> Value} {σ:U.St} {ρ:Nat -> Value} {w:World} (h:Rel E Z π σ ρ w) {c:U.C} {t:Nat} {l:List (U.T c)} (hl:f7m σ c (σ.slot t)=some l):s5 (Rp c) (cx Z π σ w).G (cx Z π σ w).w (ρ t) l:=by
 have hs:=h.slot t
 unfold f7m at hl
 split at hl
 ·rename_i id hsl
  rw [hsl] at hs
  split at hl
  ·rename_i c' l' hm
   have hm':=h.mem id
   rw [hm] at hm'
   obtain ⟨he,hx⟩:=a5u (G:=noG) (w:=w) hl
   subst he;subst hx
   rw [show ρ t=π id from hs.2.1]
   exact hm'
  ·cases hl
 ·exact e6v hl hs
structure KeepOK (Z:Nat -> Prop) (π:Nat -> Value) (σ:U.St) (ρ:Nat -> Value) (w:World) (ren:List (Nat×Nat)) (ids:List Nat) (σ':U.St) (π':Nat -> Value):Prop where
 slot: ∀X':Cx,X'.Z=Z -> X'.w=w -> X'.π=π' -> (∀id,id∈ids \/ (∃q∈ren,q.2=id) -> X'.us id) -> ∀t,AVR X' (σ'.slot t) (ρ t)
 mem: ∀X':Cx,X'.Z=Z -> X'.w=w -> X'.π=π' -> (∀id,id∈ids \/ (∃q∈ren,q.2=id) -> X'.us id) -> ∀id,MR X' (σ'.mem id) (π' id)
 own: ∀id b,MB (σ'.mem id) (π' id) b -> id∈ids /\ ∃old,(∀q∈ren,q.1≠old) /\ MB (σ.mem old) (π old) b
 dist: ∀id id' b,id≠id' -> MB (σ'.mem id) (π' id) b -> ¬MB (σ'.mem id') (π' id') b
 us: ∀id∈ids,σ'.mem id≠ .never
theorem a9i {i:Nat} {l:List Nat} (h:c5b (i::l)=true):i∉l /\ c5b l=true:=by
 simp only [c5b,Bool.and_eq_true,Bool.not_eq_true'] at h
 refine ⟨fun hm=> ?_,h.2⟩
 have:(l.any (Nat.beq i))=true:=List.any_eq_true.2 ⟨i,hm,Nat.beq_refl i⟩
 rw [h.1] at this;cases this
theorem f9c {ren al:List (Nat×Nat)} {σ:U.St} (h:alOK ren σ al=true) {t id:Nat} (hm:(t,id)∈al): ∃id',σ.slot t= .ref id' /\ (id',id)∈ren:=by
 have h1:=List.all_eq_true.1 h _ hm
 dsimp only at h1
 split at h1
 ·rename_i id' hs
  obtain ⟨q,hq,hq2⟩:=List.any_eq_true.1 h1
  simp only [Bool.and_eq_true] at hq2
  have e1:=Nat.eq_of_beq_eq_true hq2.1
  have e2:=Nat.eq_of_beq_eq_true hq2.2
  refine ⟨id',hs,?_⟩
  rw [<- e1,<- e2];exact hq
 ·cases h1
theorem f6h {l:List (Nat×U.AV)} {me:List (Nat×U.MC)} {nx t:Nat}:(∃a,(t,a)∈l /\ St.slot ⟨l,me,nx⟩ t=a) \/ St.slot ⟨l,me,nx⟩ t= .unk:=by
 simp only [St.slot]
 cases hl:lk t l with
 | none=>exact .inr rfl
 | some a=>exact .inl ⟨a,b15 hl,rfl⟩
theorem c6f {Z:Nat -> Prop} {π:Nat -> Value} {σ:U.St} {ρ:Nat -> Value} {w:World} (h:Rel E Z π σ ρ w) {pins:List Nat} {ren ren':List (Nat×Nat)} {ids:List Nat} {id:Nat} {σr σ':U.St} {π0 π':Nat -> Value} {hv:Value} {mc:U.MC}
  (hni:id∉ids) (g1: ∀i,i∉ids -> π' i=b9w π0 id hv i) (g2:KeepOK Z π σ ρ w ren' ids σr π') (g3: ∀i∈pins,π' i=π i /\ (i∈ids \/ ∃q∈ren',q.2=i))
  (hr1: ∀q∈ren',q∈ren \/ (q.2=id /\ hv=π q.1)) (hr2: ∀q∈ren,q∈ren') (e0: ∀i,σ'.mem i=if id=i then mc else σr.mem i) (hnn:mc≠ .never)
  (hMR: ∀X':Cx,X'.Z=Z -> X'.w=w -> X'.π=π' -> (∀i,i∈ids \/ (∃q∈ren',q.2=i) -> X'.us i) -> MR X' mc hv) (hMB: ∀b,MB mc hv b -> ∃old,(∀q∈ren,q.1≠old) /\ (∃q∈ren',q.1=old) /\ MB (σ.mem old) (π old) b)
  (hsl: ∀t,σ'.slot t=σr.slot t \/ (σ'.slot t= .ref id /\ ρ t=hv /\ hv.oneCell'=true)):
  (∀i,i∉id::ids -> π' i=π0 i) /\ KeepOK Z π σ ρ w ren (id::ids) σ' π' /\ (∀i∈pins,π' i=π i /\ (i∈id::ids \/ ∃q∈ren,q.2=i)):=by
 have hid:π' id=hv:=by rw [g1 id hni,b9w,if_pos rfl]
 have hus': ∀{us:Nat -> Prop},(∀i,i∈id::ids \/ (∃q∈ren,q.2=i) -> us i) -> ∀i,i∈ids \/ (∃q∈ren',q.2=i) -> us i:=fun hus i hi=>by
  rcases hi with hi | ⟨q,hq,hq2⟩
  ·exact hus i (.inl (List.mem_cons_of_mem _ hi))
  ·rcases hr1 q hq with h1 | ⟨h1,_⟩
   ·exact hus i (.inr ⟨q,h1,hq2⟩)
   ·exact hus i (.inl (by rw [<- hq2,h1];exact List.mem_cons_self))
 refine ⟨fun i hi=> ?_,⟨fun X' e1 e2 e3 hus t=> ?_,fun X' e1 e2 e3 hus i=> ?_,fun i b hb=> ?_,fun i1 i2 b hne hb hb'=> ?_,fun i hi=> ?_⟩,fun i hi=> ?_⟩
 ·simp only [List.mem_cons,not_or] at hi
  rw [g1 i hi.2,b9w,if_neg hi.1]
 ·rcases hsl t with e | ⟨e,hρ,hone⟩
  ·rw [e];exact g2.slot X' e1 e2 e3 (hus' hus) t
  ·rw [e]
   exact ⟨hus id (.inl List.mem_cons_self),by rw [e3,hid];exact hρ,by rw [hρ];exact hone⟩
 ·rw [e0]
  split
  ·rename_i e';subst e'
   rw [hid];exact hMR X' e1 e2 e3 (hus' hus)
  ·exact g2.mem X' e1 e2 e3 (hus' hus) i
 ·rw [e0] at hb
  split at hb
  ·rename_i e';subst e'
   rw [hid] at hb
   obtain ⟨old,h1,_,h2⟩:=hMB b hb
   exact ⟨List.mem_cons_self,old,h1,h2⟩
  ·obtain ⟨h1,old,h2,h3⟩:=g2.own i b hb
   exact ⟨List.mem_cons_of_mem _ h1,old,fun q hq=>h2 q (hr2 q hq),h3⟩
 ·rw [e0] at hb hb'
  split at hb
  ·rename_i e1;subst e1
   rw [if_neg hne] at hb'
   rw [hid] at hb
   obtain ⟨old,_,⟨q,hq,hq2⟩,h3⟩:=hMB b hb
   obtain ⟨_,old',h2,h4⟩:=g2.own i2 b hb'
   exact h.dist old old' b (fun e=>h2 q hq (by rw [hq2,e])) h3 h4
  ·split at hb'
   ·rename_i e1 e2;subst e2
    rw [hid] at hb'
    obtain ⟨old,_,⟨q,hq,hq2⟩,h3⟩:=hMB b hb'
    obtain ⟨_,old',h2,h4⟩:=g2.own i1 b hb
    exact h.dist old old' b (fun e=>h2 q hq (by rw [hq2,e])) h3 h4
   ·exact g2.dist i1 i2 b hne hb hb'
 ·rw [e0]
  split
  ·exact hnn
  ·rename_i hne
   rcases List.mem_cons.1 hi with h1 | h1
   ·exact absurd h1.symm hne
   ·exact g2.us i h1
 ·obtain ⟨h1,h2⟩:=g3 i hi
  refine ⟨h1,?_⟩
  rcases h2 with h2 | ⟨q,hq,hq2⟩
  ·exact .inl (List.mem_cons_of_mem _ h2)
  ·rcases hr1 q hq with h3 | ⟨h3,_⟩
   ·exact .inr ⟨q,h3,hq2⟩
   ·exact .inl (by rw [<- hq2,h3];exact List.mem_cons_self)
theorem e5m (hU:UOK U) {X X':Cx} (e1:X'.Z=X.Z) (e2:X'.w=X.w): ∀{cs:List U.C} {as:List U.AV} {x:CapT U cs} {vs:List Value},g3z cs as=some x -> p9 (a3f X) as vs -> p9 (a3f X') (e84 cs x) vs
 | [],[],_,[],_,_=>trivial
 | [],[],_,_::_,_,h=>h.elim
 | [],_::_,_,_,hd,_=>by cases hd
 | _::_,[],_,_,hd,_=>by cases hd
 | c::cs,a::as,x,[],_,h=>h.elim
 | c::cs,a::as,x,v::vs,hd,h=>by
   cases a with
   | rp b=>
     have hd:(match prj c b with | some x=>(match g3z cs as with | some xs=>some (x,xs) | none=>none) | none=>none)=some x:=hd
     split at hd
     ·rename_i y hp
      split at hd
      ·rename_i ys hq
       obtain rfl:=Option.some.inj hd
       obtain ⟨⟨ad,ks,hv,hb,hg,hca,hr⟩,h4⟩:=h
       obtain ⟨u1,hu1,hr1⟩:=a3g hr
       have h3:=b63 hU hp hr1
       rw [hu1] at h3
       refine ⟨⟨ad,ks,hv,by rw [e2];exact hb,by unfold Cx.G;rw [e1];exact hg,by rw [e2];exact hca,?_⟩,e5m hU e1 e2 hq h4⟩
       unfold Cx.G;rw [e1,e2];exact b4z hU h3
      ·cases hd
     ·cases hd
   | _=>cases hd
theorem b2z (hU:UOK U) {Z:Nat -> Prop} {π:Nat -> Value} {σ:U.St} {ρ:Nat -> Value} {w:World} (h:Rel E Z π σ ρ w) {pins:List Nat} {al:List (Nat×Nat)}: ∀(es:List (EK U.C)) (ren:List (Nat×Nat)) (s:Keep U es) (π0:Nat -> Value),c60 pins al es ren σ=some s -> c5b (b13 es)=true -> (∀q∈ren,q.2∉b13 es) -> (∀q∈ren,π0 q.2=π q.1) ->
  ∃π':Nat -> Value,(∀id,id∉b13 es -> π' id=π0 id) /\ KeepOK Z π σ ρ w ren (b13 es) (b4w al es s) π' /\ (∀i∈pins,π' i=π i /\ (i∈b13 es \/ ∃q∈ren,q.2=i))
 | [],ren,s,π0,hd,_,_,hπ0=>by
   simp only [c60] at hd
   split at hd
   ·rename_i hp
    simp only [Bool.and_eq_true] at hp
    refine ⟨π0,fun _ _=>rfl,⟨fun X' e1 e2 e3 hus t=> ?_,fun _ _ _ _ _ _=>trivial,fun _ _ h=>h.elim,fun _ _ _ _ h=>h.elim,fun _ h=>by cases h⟩,fun i hi=> ?_⟩
    ·rcases f6h (l:=al.map fun a=>(a.1,(.ref a.2:U.AV))) (me:=[]) (nx:=al.foldl (fun m a=>max m (a.2+1)) 0) (t:=t) with ⟨a,ha,he⟩ | he
     ·obtain ⟨⟨t',id⟩,hm,e⟩:=List.mem_map.1 ha
      simp only [Prod.mk.injEq] at e
      obtain ⟨rfl,rfl⟩:=e
      obtain ⟨id',hs,hr⟩:=f9c hp.2 hm
      have hst:=h.slot t'
      rw [hs] at hst
      show AVR X' (St.slot ⟨_,_,_⟩ t') _
      rw [he]
      refine ⟨hus id (.inr ⟨_,hr,rfl⟩),?_,hst.2.2⟩
      rw [e3,hπ0 _ hr];exact hst.2.1
     ·show AVR X' (St.slot ⟨_,_,_⟩ t) _
      rw [he];trivial
    ·obtain ⟨q,hq,hq2⟩:=List.any_eq_true.1 (List.all_eq_true.1 hp.1 i hi)
     simp only [Bool.and_eq_true] at hq2
     have h1:=Nat.eq_of_beq_eq_true hq2.1
     have h2:=Nat.eq_of_beq_eq_true hq2.2
     refine ⟨?_,.inr ⟨q,hq,h2⟩⟩
     have:=hπ0 q hq
     rwa [h1,h2] at this
   ·cases hd
 | .v t c::es,ren,s,π0,hd,hn,hren,hπ0=>by
   obtain ⟨h1,h2⟩:=a6v hd
   obtain ⟨π',g1,g2,g3⟩:=b2z hU h es ren (a6y es s) π0 h2 hn hren hπ0
   refine ⟨π',g1,⟨fun X' e1 e2 e3 hus t'=> ?_,g2.mem,g2.own,g2.dist,g2.us⟩,g3⟩
   show AVR X' (St.slot ⟨(t,inj c (a8s es s))::(b4w al es (a6y es s)).sl,_,_⟩ t') _
   rw [a0g]
   split
   ·rename_i e;subst e
    have hs:=h.slot t
    exact AVR.of1 (a83 (a2r hU c (a8s es s)).1 (b98 hU h1 (a9q (d01 hU h1) hs)) e2 (by rw [e1];exact fun _ h=>h))
   ·exact g2.slot X' e1 e2 e3 hus t'
 | .ls t c::es,ren,s,π0,hd,hn,hren,hπ0=>by
   obtain ⟨h1,h2⟩:=a6v hd
   obtain ⟨π',g1,g2,g3⟩:=b2z hU h es ren (a6y es s) π0 h2 hn hren hπ0
   refine ⟨π',g1,⟨fun X' e1 e2 e3 hus t'=> ?_,g2.mem,g2.own,g2.dist,g2.us⟩,g3⟩
   show AVR X' (St.slot ⟨(t,.list c (a8s es s))::(b4w al es (a6y es s)).sl,_,_⟩ t') _
   rw [a0g]
   split
   ·rename_i e;subst e
    have:=e7h h h1
    show s5 (Rp c) X'.G X'.w _ _
    unfold Cx.G;rw [e1,e2];exact this
   ·exact g2.slot X' e1 e2 e3 hus t'
 | .rp t c::es,ren,s,π0,hd,hn,hren,hπ0=>by
   simp only [c60] at hd
   split at hd
   ·rename_i b hsl
    obtain ⟨h1,h2⟩:=a6v hd
    obtain ⟨π',g1,g2,g3⟩:=b2z hU h es ren (a6y es s) π0 h2 hn hren hπ0
    refine ⟨π',g1,⟨fun X' e1 e2 e3 hus t'=> ?_,g2.mem,g2.own,g2.dist,g2.us⟩,g3⟩
    show AVR X' (St.slot ⟨(t,.rp (inj c (a8s es s)))::(b4w al es (a6y es s)).sl,_,_⟩ t') _
    rw [a0g]
    split
    ·rename_i e;subst e
     have hs:=h.slot t
     rw [hsl] at hs
     obtain ⟨ad,cs,hv,hb,hg,hca,hr⟩:=hs
     obtain ⟨u1,hu1,hr1⟩:=a3g hr
     have h3:=b63 hU h1 hr1
     rw [hu1] at h3
     refine ⟨ad,cs,hv,by rw [e2];exact hb,by unfold Cx.G;rw [e1];exact hg,by rw [e2];exact hca,?_⟩
     unfold Cx.G;rw [e1,e2];exact b4z hU h3
    ·exact g2.slot X' e1 e2 e3 hus t'
   ·cases hd
 | .ow t id e c::es,ren,s,π0,hd,hn,hren,hπ0=>by
   obtain ⟨hni,hnd⟩:=a9i (i:=id) (l:=b13 es) hn
   have hren': ∀q∈ren,q.2≠id /\ q.2∉b13 es:=fun q hq=>by
    have:=hren q hq
    simp only [b13,List.mem_cons,not_or] at this
    exact this
   obtain ⟨x,hx0⟩: ∃x:List (U.T c),x=a8s es s:=⟨_,rfl⟩
   obtain ⟨xs,hxs0⟩: ∃xs:Keep U es,xs=a6y es s:=⟨_,rfl⟩
   have e0: ∀i,(b4w al (.ow t id e c::es) s).mem i=if id=i then .sl e c x else (b4w al es xs).mem i:=fun i=>by
    rw [hx0,hxs0];exact mem_cons
   have key: ∀(ren':List (Nat×Nat)) (hv:Value),c60 pins al es ren' σ=some xs -> (∀q∈ren',q∈ren \/ (q.2=id /\ hv=π q.1)) -> (∀q∈ren,q∈ren') -> ρ t=hv -> hv.oneCell'=true -> MR (cx Z π σ w) (.sl e c x) hv -> (∀b,MB (.sl e c x:U.MC) hv b -> ∃old,(∀q∈ren,q.1≠old) /\ (∃q∈ren',q.1=old) /\ MB (σ.mem old) (π old) b) ->
     ∃π':Nat -> Value,(∀id',id'∉b13 (.ow t id e c::es) -> π' id'=π0 id') /\ KeepOK Z π σ ρ w ren (b13 (.ow t id e c::es)) (b4w al (.ow t id e c::es) s) π' /\ (∀i∈pins,π' i=π i /\ (i∈b13 (.ow t id e c::es) \/ ∃q∈ren,q.2=i)):=by
    intro ren' hv hdk hr1 hr2 hρ hone hMR hMBs
    obtain ⟨π',g1,g2,g3⟩:=b2z hU h es ren' xs (b9w π0 id hv) hdk hnd (fun q hq=>by
     rcases hr1 q hq with h1 | ⟨h1,_⟩
     ·exact (hren' q h1).2
     ·rw [h1];exact hni) (fun q hq=>by
     rcases hr1 q hq with h1 | ⟨h1,h2⟩
     ·rw [b9w,if_neg (hren' q h1).1];exact hπ0 q h1
     ·rw [h1,b9w,if_pos rfl];exact h2)
    have hid:π' id=hv:=by rw [g1 id hni,b9w,if_pos rfl]
    refine ⟨π',fun id' hid'=> ?_,⟨fun X' e1 e2 e3 hus t'=> ?_,fun X' e1 e2 e3 hus id'=> ?_,fun id' b hb=> ?_,fun i1 i2 b hne hb hb'=> ?_,fun id' hid'=> ?_⟩,fun i hi=> ?_⟩
    ·simp only [b13,List.mem_cons,not_or] at hid'
     rw [g1 id' hid'.2,b9w,if_neg hid'.1]
    ·show AVR X' (St.slot ⟨(t,.ref id)::(b4w al es (a6y es s)).sl,_,_⟩ t') _
     rw [a0g]
     split
     ·rename_i e';subst e'
      refine ⟨hus id (.inl (by simp [b13])),?_,by rw [hρ];exact hone⟩
      rw [e3,hid];exact hρ
     ·rw [<- hxs0]
      refine g2.slot X' e1 e2 e3 (fun id' hid'=> ?_) t'
      rcases hid' with hid' | ⟨q,hq,hq2⟩
      ·exact hus id' (.inl (by simp [b13,hid']))
      ·rcases hr1 q hq with h1 | ⟨h1,_⟩
       ·exact hus id' (.inr ⟨q,h1,hq2⟩)
       ·exact hus id' (.inl (by simp [b13,<- hq2,h1]))
    ·rw [e0]
     split
     ·rename_i e';subst e'
      rw [hid]
      obtain ⟨css,hO,hr⟩:=hMR
      refine ⟨css,by rw [e2];exact hO,?_⟩
      unfold Cx.G;rw [e1,e2];exact hr
     ·refine g2.mem X' e1 e2 e3 (fun id' hid'=> ?_) id'
      rcases hid' with hid' | ⟨q,hq,hq2⟩
      ·exact hus id' (.inl (by simp [b13,hid']))
      ·rcases hr1 q hq with h1 | ⟨h1,_⟩
       ·exact hus id' (.inr ⟨q,h1,hq2⟩)
       ·exact hus id' (.inl (by simp [b13,<- hq2,h1]))
    ·rw [e0] at hb
     split at hb
     ·rename_i e';subst e'
      rw [hid] at hb
      obtain ⟨old,h1,_,h2⟩:=hMBs b hb
      exact ⟨by simp [b13],old,h1,h2⟩
     ·obtain ⟨h1,old,h2,h3⟩:=g2.own id' b hb
      exact ⟨by simp [b13,h1],old,fun q hq=>h2 q (hr2 q hq),h3⟩
    ·rw [e0] at hb hb'
     split at hb
     ·rename_i e1;subst e1
      rw [if_neg hne] at hb'
      rw [hid] at hb
      obtain ⟨old,_,⟨q,hq,hq2⟩,h3⟩:=hMBs b hb
      obtain ⟨_,old',h2,h4⟩:=g2.own i2 b hb'
      exact h.dist old old' b (fun e=>h2 q hq (by rw [hq2,e])) h3 h4
     ·split at hb'
      ·rename_i e1 e2;subst e2
       rw [hid] at hb'
       obtain ⟨old,_,⟨q,hq,hq2⟩,h3⟩:=hMBs b hb'
       obtain ⟨_,old',h2,h4⟩:=g2.own i1 b hb
       exact h.dist old old' b (fun e=>h2 q hq (by rw [hq2,e])) h3 h4
      ·exact g2.dist i1 i2 b hne hb hb'
    ·rw [e0]
     simp only [b13,List.mem_cons] at hid'
     split
     ·intro h;cases h
     ·rename_i hne
      rcases hid' with h1 | h1
      ·exact absurd h1.symm hne
      ·exact g2.us id' h1
    ·obtain ⟨h1,h2⟩:=g3 i hi
     refine ⟨h1,?_⟩
     rcases h2 with h2 | ⟨q,hq,hq2⟩
     ·exact .inl (by simp [b13,h2])
     ·rcases hr1 q hq with h3 | ⟨h3,_⟩
      ·exact .inr ⟨q,h3,hq2⟩
      ·exact .inl (by simp [b13,<- hq2,h3])
   have hs:=h.slot t
   simp only [c60] at hd
   split at hd
   ·rename_i hsl
    obtain ⟨h1,h2⟩:=a6v hd
    rw [hsl] at hs
    have hs:ρ t= .slice none 0 0:=hs
    have hx:x=[]:=by rw [hx0];exact (Option.some.inj h1).symm
    rw [<- hxs0] at h2
    refine key ren (.slice none 0 0) h2 (fun q hq=> .inl hq) (fun q hq=>hq) hs rfl ⟨[],Own.nil _ _ _ _ _,by rw [hx];trivial⟩ (fun b hb=>by cases hb)
   ·rename_i id' hsl
    rw [hsl] at hs
    split at hd
    ·rename_i e' c' l hany hmem
     split at hd
     ·rename_i hbe
      have hee:=Nat.eq_of_beq_eq_true hbe
      obtain ⟨h1,h2⟩:=a6v hd
      rw [<- hxs0] at h2
      have h1:c20 c l=some x:=by rw [hx0];exact h1
      obtain ⟨he,hx⟩:=a5u (G:=noG) (w:=w) h1
      have hm:=h.mem id'
      rw [hmem] at hm
      have hm':MR (cx Z π σ w) (.sl e c x) (π id'):=by
       rw [hee,hx]
       clear key h1 hx hd e0 hx0
       subst he
       exact hm
      have hb': ∀b,MB (.sl e c x:U.MC) (π id') b -> MB (σ.mem id') (π id') b:=fun b hb=>by rw [hmem];exact hb
      refine key ((id',id)::ren) (π id') h2 (fun q hq=> ?_) (fun q hq=>List.mem_cons_of_mem _ hq) hs.2.1 (by have h9:=hs.2.2;rw [show ρ t=π id' from hs.2.1] at h9;exact h9) hm' (fun b hb=>⟨id',fun q hq e1=> ?_,⟨_,List.mem_cons_self,rfl⟩,hb' b hb⟩)
      ·rcases List.mem_cons.1 hq with e1 | e1
       ·right;rw [e1];exact ⟨rfl,rfl⟩
       ·exact .inl e1
      ·have:(ren.any fun q=>Nat.beq q.1 id')=true:=List.any_eq_true.2 ⟨q,hq,by rw [e1];exact Nat.beq_refl id'⟩
       rw [hany] at this;cases this
     ·cases hd
    ·cases hd
   ·cases hd
 | .bx t id ty c::es,ren,s,π0,hd,hn,hren,hπ0=>by
   obtain ⟨hni,hnd⟩:=a9i (i:=id) (l:=b13 es) hn
   have hren': ∀q∈ren,q.2≠id /\ q.2∉b13 es:=fun q hq=>by
    have:=hren q hq
    simp only [b13,List.mem_cons,not_or] at this
    exact this
   have hs:=h.slot t
   simp only [c60] at hd
   split at hd
   ·rename_i id' hsl
    rw [hsl] at hs
    split at hd
    ·rename_i ty' bb hany hmem
     split at hd
     ·rename_i hbe
      have hee:=Nat.eq_of_beq_eq_true hbe
      subst hee
      obtain ⟨hp,hdk⟩:=a6v hd
      have hnew: ∀q∈ren,q.1≠id':=fun q hq e1=>by
       have:(ren.any fun q=>Nat.beq q.1 id')=true:=List.any_eq_true.2 ⟨q,hq,by rw [e1];exact Nat.beq_refl id'⟩
       rw [hany] at this;cases this
      obtain ⟨π',g1,g2,g3⟩:=b2z hU h es ((id',id)::ren) (a6y es s) (b9w π0 id (π id')) hdk hnd (fun q hq=>by
       rcases List.mem_cons.1 hq with e1 | e1
       ·rw [e1];exact hni
       ·exact (hren' q e1).2) (fun q hq=>by
       rcases List.mem_cons.1 hq with e1 | e1
       ·rw [e1];exact if_pos rfl
       ·rw [b9w,if_neg (hren' q e1).1];exact hπ0 q e1)
      have hid:π' id=π id':=by rw [g1 id hni,b9w,if_pos rfl]
      have hm:=h.mem id'
      rw [hmem] at hm
      have e0: ∀i,(b4w al (.bx t id ty c::es) s).mem i=if id=i then .box ty (inj c (a8s es s)) else (b4w al es (a6y es s)).mem i:=fun i=>mem_cons
      refine ⟨π',fun i hi=> ?_,⟨fun X' e1 e2 e3 hus t'=> ?_,fun X' e1 e2 e3 hus i=> ?_,fun i b hb=> ?_,fun i1 i2 b hne hb hb'=> ?_,fun i hi=> ?_⟩,fun i hi=> ?_⟩
      ·simp only [b13,List.mem_cons,not_or] at hi
       rw [g1 i hi.2,b9w,if_neg hi.1]
      ·show AVR X' (St.slot ⟨(t,.ref id)::(b4w al es (a6y es s)).sl,_,_⟩ t') _
       rw [a0g]
       split
       ·rename_i e';subst e'
        refine ⟨hus id (.inl (by simp [b13])),?_,hs.2.2⟩
        rw [e3,hid];exact hs.2.1
       ·refine g2.slot X' e1 e2 e3 (fun i hi=> ?_) t'
        rcases hi with hi | ⟨q,hq,hq2⟩
        ·exact hus i (.inl (by simp [b13,hi]))
        ·rcases List.mem_cons.1 hq with e' | e'
         ·rw [e'] at hq2;exact hus i (.inl (by simp [b13,<- hq2]))
         ·exact hus i (.inr ⟨q,e',hq2⟩)
      ·rw [e0]
       split
       ·rename_i e';subst e'
        rw [hid]
        obtain ⟨blk,u,hv,hM,hr⟩:=hm
        refine ⟨blk,u,hv,by rw [e2];exact hM,a83 (a2r hU c _).1 (b98 hU hp hr) e2 (by rw [e1];exact fun _ h=>h)⟩
       ·refine g2.mem X' e1 e2 e3 (fun i hi=> ?_) i
        rcases hi with hi | ⟨q,hq,hq2⟩
        ·exact hus i (.inl (by simp [b13,hi]))
        ·rcases List.mem_cons.1 hq with e' | e'
         ·rw [e'] at hq2;exact hus i (.inl (by simp [b13,<- hq2]))
         ·exact hus i (.inr ⟨q,e',hq2⟩)
      ·rw [e0] at hb
       split at hb
       ·rename_i e';subst e'
        rw [hid] at hb
        exact ⟨by simp [b13],id',hnew,by rw [hmem];exact hb⟩
       ·obtain ⟨h1,old,h2,h3⟩:=g2.own i b hb
        exact ⟨by simp [b13,h1],old,fun q hq=>h2 q (List.mem_cons_of_mem _ hq),h3⟩
      ·rw [e0] at hb hb'
       split at hb
       ·rename_i e1;subst e1
        rw [if_neg hne] at hb'
        rw [hid] at hb
        obtain ⟨_,old',h2,h4⟩:=g2.own i2 b hb'
        exact h.dist id' old' b (h2 _ List.mem_cons_self) (by rw [hmem];exact hb) h4
       ·split at hb'
        ·rename_i e1 e2;subst e2
         rw [hid] at hb'
         obtain ⟨_,old',h2,h4⟩:=g2.own i1 b hb
         exact h.dist id' old' b (h2 _ List.mem_cons_self) (by rw [hmem];exact hb') h4
        ·exact g2.dist i1 i2 b hne hb hb'
      ·rw [e0]
       simp only [b13,List.mem_cons] at hi
       split
       ·intro h;cases h
       ·rename_i hne
        rcases hi with h1 | h1
        ·exact absurd h1.symm hne
        ·exact g2.us i h1
      ·obtain ⟨h1,h2⟩:=g3 i hi
       refine ⟨h1,?_⟩
       rcases h2 with h2 | ⟨q,hq,hq2⟩
       ·exact .inl (by simp [b13,h2])
       ·rcases List.mem_cons.1 hq with e' | e'
        ·rw [e'] at hq2;exact .inl (by simp [b13,<- hq2])
        ·exact .inr ⟨q,e',hq2⟩
     ·cases hd
    ·cases hd
   ·cases hd
 | .of t f id e c::es,ren,s,π0,hd,hn,hren,hπ0=>by
   obtain ⟨hni,hnd⟩:=a9i (i:=id) (l:=b13 es) hn
   have hren': ∀q∈ren,q.2≠id /\ q.2∉b13 es:=fun q hq=>by
    have:=hren q hq
    simp only [b13,List.mem_cons,not_or] at this
    exact this
   simp only [c60] at hd
   split at hd
   case h_2=>cases hd
   rename_i bid hsl
   split at hd
   case h_2=>cases hd
   rename_i bty bc fs hbm
   split at hd
   case h_2=>cases hd
   rename_i id' hra
   split at hd
   case h_2=>cases hd
   rename_i e' c' l hany hmem
   split at hd
   case h_2=>cases hd
   rename_i hbe
   have hee:=Nat.eq_of_beq_eq_true hbe
   subst hee
   obtain ⟨h1,h2⟩:=a6v hd
   have hnew: ∀q∈ren,q.1≠id':=fun q hq e1=>by
    have:(ren.any fun q=>Nat.beq q.1 id')=true:=List.any_eq_true.2 ⟨q,hq,by rw [e1];exact Nat.beq_refl id'⟩
    rw [hany] at this;cases this
   obtain ⟨π',g1,g2,g3⟩:=b2z hU h es ((id',id)::ren) (a6y es s) (b9w π0 id (π id')) h2 hnd (fun q hq=>by
    rcases List.mem_cons.1 hq with e1 | e1
    ·rw [e1];exact hni
    ·exact (hren' q e1).2) (fun q hq=>by
    rcases List.mem_cons.1 hq with e1 | e1
    ·rw [e1];exact if_pos rfl
    ·rw [b9w,if_neg (hren' q e1).1];exact hπ0 q e1)
   have hm:=h.mem id'
   rw [hmem] at hm
   obtain ⟨hx,hx0⟩: ∃x:List (U.T c),x=a8s es s:=⟨_,rfl⟩
   have h1:c20 c l=some hx:=by rw [hx0];exact h1
   obtain ⟨hcc,hxl⟩:=a5u (G:=noG) (w:=w) h1
   refine ⟨π',c6f (mc:= .sl e c (a8s es s)) h hni g1 g2 g3 (fun q hq=> ?_) (fun q hq=>List.mem_cons_of_mem _ hq) (fun i=>mem_cons) (fun h=>by cases h) (fun X' e1 e2 _ _=> ?_) (fun b hb=>⟨id',hnew,⟨_,List.mem_cons_self,rfl⟩,by rw [hmem];exact hb⟩) fun t=> .inl rfl⟩
   ·rcases List.mem_cons.1 hq with e1 | e1
    ·right;rw [e1];exact ⟨rfl,rfl⟩
    ·exact .inl e1
   ·rw [<- hx0,hxl]
    clear h1 hxl hx0 hd g1 g2 g3
    subst hcc
    obtain ⟨css,hO,hr⟩:=hm
    refine ⟨css,by rw [e2];exact hO,?_⟩
    unfold Cx.G;rw [e1,e2];exact hr
 | .cl t f cs::es,ren,s,π0,hd,hn,hren,hπ0=>by
   simp only [c60] at hd
   split at hd
   case h_2=>cases hd
   rename_i f' as hsl
   split at hd
   case h_2=>cases hd
   rename_i hbe
   have hee:=Nat.eq_of_beq_eq_true hbe
   subst hee
   obtain ⟨h1,h2⟩:=a6v hd
   obtain ⟨π',g1,g2,g3⟩:=b2z hU h es ren (a6y es s) π0 h2 hn hren hπ0
   refine ⟨π',g1,⟨fun X' e1 e2 e3 hus t'=> ?_,g2.mem,g2.own,g2.dist,g2.us⟩,g3⟩
   show AVR X' (St.slot ⟨(t,.clo f (e84 cs (a8s es s)))::(b4w al es (a6y es s)).sl,_,_⟩ t') _
   rw [a0g]
   split
   ·rename_i e;subst e
    have hs:=h.slot t
    rw [hsl] at hs
    obtain ⟨vs,hv,hr⟩:=hs
    exact ⟨vs,hv,e5m hU e1 e2 h1 hr⟩
   ·exact g2.slot X' e1 e2 e3 hus t'
 | .vw t id c::es,ren,s,π0,hd,hn,hren,hπ0=>by
   simp only [c60] at hd
   split at hd
   case h_2=>cases hd
   rename_i id' c' lo n hsl
   split at hd
   case h_2=>cases hd
   rename_i hck
   simp only [Bool.and_eq_true] at hck
   have hcc:=b8i hck.2
   subst hcc
   obtain ⟨q,hq,hq2⟩:=List.any_eq_true.1 hck.1
   simp only [Bool.and_eq_true] at hq2
   have q1:=Nat.eq_of_beq_eq_true hq2.1
   have q2:=Nat.eq_of_beq_eq_true hq2.2
   obtain ⟨h1,h2⟩:=a6v hd
   have h1:(lo,n)=a8s es s:=Option.some.inj h1
   obtain ⟨π',g1,g2,g3⟩:=b2z hU h es ren (a6y es s) π0 h2 hn hren hπ0
   refine ⟨π',g1,⟨fun X' e1 e2 e3 hus t'=> ?_,g2.mem,g2.own,g2.dist,g2.us⟩,g3⟩
   show AVR X' (St.slot ⟨(t,.vw id c (a8s es s).1 (a8s es s).2)::(b4w al es (a6y es s)).sl,_,_⟩ t') _
   rw [a0g]
   split
   ·rename_i e;subst e
    have hs:=h.slot t
    rw [hsl] at hs
    refine ⟨hus id (.inr ⟨q,hq,q2⟩),?_⟩
    have hp:X'.π id=π id':=by
     rw [e3]
     show π' id=π id'
     rw [<- q2,g1 q.2 (hren q hq),hπ0 q hq,q1]
    rw [<- h1,hp]
    exact hs.2
   ·exact g2.slot X' e1 e2 e3 hus t'
 | .mp t id::es,ren,s,π0,hd,hn,hren,hπ0=>by
   obtain ⟨hni,hnd⟩:=a9i (i:=id) (l:=b13 es) hn
   have hren': ∀q∈ren,q.2≠id /\ q.2∉b13 es:=fun q hq=>by
    have:=hren q hq
    simp only [b13,List.mem_cons,not_or] at this
    exact this
   have hs:=h.slot t
   simp only [c60] at hd
   split at hd
   case h_2=>cases hd
   rename_i id' hsl
   rw [hsl] at hs
   split at hd
   case h_2=>cases hd
   rename_i l0 hany hmem
   obtain ⟨h1,h2⟩:=a6v hd
   have hnew: ∀q∈ren,q.1≠id':=fun q hq e1=>by
    have:(ren.any fun q=>Nat.beq q.1 id')=true:=List.any_eq_true.2 ⟨q,hq,by rw [e1];exact Nat.beq_refl id'⟩
    rw [hany] at this;cases this
   obtain ⟨π',g1,g2,g3⟩:=b2z hU h es ((id',id)::ren) (a6y es s) (b9w π0 id (π id')) h2 hnd (fun q hq=>by
    rcases List.mem_cons.1 hq with e1 | e1
    ·rw [e1];exact hni
    ·exact (hren' q e1).2) (fun q hq=>by
    rcases List.mem_cons.1 hq with e1 | e1
    ·rw [e1];exact if_pos rfl
    ·rw [b9w,if_neg (hren' q e1).1];exact hπ0 q e1)
   have hm:=h.mem id'
   rw [hmem] at hm
   have h1:l0=a8s es s:=Option.some.inj h1
   refine ⟨π',c6f (mc:= .mp (a8s es s)) h hni g1 g2 g3 (fun q hq=> ?_) (fun q hq=>List.mem_cons_of_mem _ hq) (fun i=>mem_cons) (fun h=>by cases h) (fun X' e1 e2 _ _=> ?_) (fun b hb=>⟨id',hnew,⟨_,List.mem_cons_self,rfl⟩,by rw [hmem];exact hb⟩) fun t'=> ?_⟩
   ·rcases List.mem_cons.1 hq with e1 | e1
    ·right;rw [e1];exact ⟨rfl,rfl⟩
    ·exact .inl e1
   ·rw [<- h1]
    obtain ⟨b,hv,h0,hb⟩:=hm
    exact ⟨b,hv,h0,by rw [e2];exact hb⟩
   ·show St.slot ⟨(t,.ref id)::(b4w al es (a6y es s)).sl,_,_⟩ t'=_ \/ _
    by_cases e':t=t'
    ·subst e'
     refine .inr ⟨?_,hs.2.1,(show ρ t=π id' from hs.2.1)▸hs.2.2⟩
     show St.slot ⟨(t,.ref id)::(b4w al es (a6y es s)).sl,_,_⟩ t=_
     rw [a0g,if_pos rfl]
    ·left;rw [a0g,if_neg e'];rfl
 | .it t id::es,ren,s,π0,hd,hn,hren,hπ0=>by
   obtain ⟨hni,hnd⟩:=a9i (i:=id) (l:=b13 es) hn
   have hren': ∀q∈ren,q.2≠id /\ q.2∉b13 es:=fun q hq=>by
    have:=hren q hq
    simp only [b13,List.mem_cons,not_or] at this
    exact this
   have hs:=h.slot t
   simp only [c60] at hd
   split at hd
   case h_2=>cases hd
   rename_i id' hsl
   rw [hsl] at hs
   split at hd
   case h_2=>cases hd
   rename_i str p hany hmem
   obtain ⟨h1,h2⟩:=a6v hd
   have hnew: ∀q∈ren,q.1≠id':=fun q hq e1=>by
    have:(ren.any fun q=>Nat.beq q.1 id')=true:=List.any_eq_true.2 ⟨q,hq,by rw [e1];exact Nat.beq_refl id'⟩
    rw [hany] at this;cases this
   obtain ⟨π',g1,g2,g3⟩:=b2z hU h es ((id',id)::ren) (a6y es s) (b9w π0 id (π id')) h2 hnd (fun q hq=>by
    rcases List.mem_cons.1 hq with e1 | e1
    ·rw [e1];exact hni
    ·exact (hren' q e1).2) (fun q hq=>by
    rcases List.mem_cons.1 hq with e1 | e1
    ·rw [e1];exact if_pos rfl
    ·rw [b9w,if_neg (hren' q e1).1];exact hπ0 q e1)
   have hm:=h.mem id'
   rw [hmem] at hm
   have h1:(str,p)=a8s es s:=Option.some.inj h1
   refine ⟨π',c6f (mc:= .it (a8s es s).1 (a8s es s).2) h hni g1 g2 g3 (fun q hq=> ?_) (fun q hq=>List.mem_cons_of_mem _ hq) (fun i=>mem_cons) (fun h=>by cases h) (fun X' e1 e2 _ _=> ?_) (fun b hb=>⟨id',hnew,⟨_,List.mem_cons_self,rfl⟩,by rw [hmem];exact hb⟩) fun t'=> ?_⟩
   ·rcases List.mem_cons.1 hq with e1 | e1
    ·right;rw [e1];exact ⟨rfl,rfl⟩
    ·exact .inl e1
   ·rw [<- h1]
    obtain ⟨b,hv,h0,hb⟩:=hm
    exact ⟨b,hv,h0,by rw [e2];exact hb⟩
   ·show St.slot ⟨(t,.ref id)::(b4w al es (a6y es s)).sl,_,_⟩ t'=_ \/ _
    by_cases e':t=t'
    ·subst e'
     refine .inr ⟨?_,hs.2.1,(show ρ t=π id' from hs.2.1)▸hs.2.2⟩
     show St.slot ⟨(t,.ref id)::(b4w al es (a6y es s)).sl,_,_⟩ t=_
     rw [a0g,if_pos rfl]
    ·left;rw [a0g,if_neg e'];rfl
 | .bm t id ty c m::es,ren,s,π0,hd,hn,hren,hπ0=>by
   obtain ⟨hni,hnd⟩:=a9i (i:=id) (l:=b13 es) hn
   have hren': ∀q∈ren,q.2≠id /\ q.2∉b13 es:=fun q hq=>by
    have:=hren q hq
    simp only [b13,List.mem_cons,not_or] at this
    exact this
   have hs:=h.slot t
   simp only [c60] at hd
   split at hd
   case h_2=>cases hd
   rename_i id' hsl
   rw [hsl] at hs
   split at hd
   case h_2=>cases hd
   rename_i ty' c' fs hany hmem
   split at hd
   case h_2=>cases hd
   rename_i hck
   simp only [Bool.and_eq_true] at hck
   have hee:=Nat.eq_of_beq_eq_true hck.1.1
   subst hee
   have hcc:=b8i hck.1.2
   subst hcc
   obtain ⟨hp,hdk⟩:=a6v hd
   have hnew: ∀q∈ren,q.1≠id':=fun q hq e1=>by
    have:(ren.any fun q=>Nat.beq q.1 id')=true:=List.any_eq_true.2 ⟨q,hq,by rw [e1];exact Nat.beq_refl id'⟩
    rw [hany] at this;cases this
   obtain ⟨π',g1,g2,g3⟩:=b2z hU h es ((id',id)::ren) (a6y es s) (b9w π0 id (π id')) hdk hnd (fun q hq=>by
    rcases List.mem_cons.1 hq with e1 | e1
    ·rw [e1];exact hni
    ·exact (hren' q e1).2) (fun q hq=>by
    rcases List.mem_cons.1 hq with e1 | e1
    ·rw [e1];exact if_pos rfl
    ·rw [b9w,if_neg (hren' q e1).1];exact hπ0 q e1)
   have hm:=h.mem id'
   rw [hmem] at hm
   obtain ⟨blk,u,hv,hM,css,hu,hlay,hpp,hr⟩:=hm
   refine ⟨π',c6f (mc:= .box ty (.st c (b7e m (U.flds c (a8s es s))))) h hni g1 g2 g3 (fun q hq=> ?_) (fun q hq=>List.mem_cons_of_mem _ hq) (fun i=>mem_cons) (fun h=>by cases h) (fun X' e1 e2 e3 hus=> ?_) (fun b hb=>⟨id',hnew,⟨_,List.mem_cons_self,rfl⟩,by rw [hmem];exact hb⟩) fun t'=> ?_⟩
   ·rcases List.mem_cons.1 hq with e1 | e1
    ·right;rw [e1];exact ⟨rfl,rfl⟩
    ·exact .inl e1
   ·obtain ⟨k1,k2,k3⟩:=d0v hU (X:=cx Z π σ w) (X':=X') hlay hpp hr hp e2 (by rw [e1];exact fun _ h=>h) fun j jd hj=>by
     have hmo:=List.all_eq_true.1 hck.2 _ hj
     dsimp only at hmo
     split at hmo
     ·rename_i i hi
      obtain ⟨q,hq,hq2⟩:=List.any_eq_true.1 hmo
      simp only [Bool.and_eq_true] at hq2
      have q1:=Nat.eq_of_beq_eq_true hq2.1
      have q2:=Nat.eq_of_beq_eq_true hq2.2
      have hqr:=hren' q hq
      refine ⟨i,c0k hi,hus jd (.inr ⟨q,List.mem_cons_of_mem _ hq,q2⟩),?_⟩
      rw [e3]
      show π' jd=π i
      rw [<- q2,g1 q.2 hqr.2,b9w,if_neg hqr.1,hπ0 q hq,q1]
     ·cases hmo
    exact ⟨blk,u,hv,by rw [e2];exact hM,css,hu,k1,k2,k3⟩
   ·show St.slot ⟨(t,.ref id)::(b4w al es (a6y es s)).sl,_,_⟩ t'=_ \/ _
    rw [a0g]
    split
    ·rename_i e';subst e'
     right
     refine ⟨?_,hs.2.1,by have h9:=hs.2.2;rw [show ρ t=π id' from hs.2.1] at h9;exact h9⟩
     show St.slot ⟨(t,.ref id)::(b4w al es (a6y es s)).sl,_,_⟩ t=_
     rw [a0g,if_pos rfl]
    ·exact .inl rfl
theorem e2x {α β:Type} {o:Option α} {f:α -> Option β} {b:β} (h:bindO o f=some b): ∃a,o=some a /\ f a=some b:=by
 cases o with
 | none=>cases h
 | some a=>exact ⟨a,rfl,h⟩
theorem b0m {σ:U.St}: ∀es:List (EK U.C),FZ σ (f5f σ es)
 | [],id,m,h=>by cases h
 | .ls t _::es,id,m,h=>by
   simp only [f5f] at h
   split at h
   ·rename_i id' hs
    split at h
    ·rename_i e c l hm
     rcases List.mem_cons.1 h with h | h
     ·simp only [Prod.mk.injEq] at h
      obtain ⟨rfl,rfl⟩:=h
      exact ⟨_,_,_,hm,rfl⟩
     ·exact b0m es id m h
    ·exact b0m es id m h
   ·exact b0m es id m h
 | .v _ _::es,id,m,h=>b0m es id m h
 | .ow _ _ _ _::es,id,m,h=>b0m es id m h
 | .bx _ _ _ _::es,id,m,h=>b0m es id m h
 | .rp _ _::es,id,m,h=>b0m es id m h
 | .of _ _ _ _ _::es,id,m,h=>b0m es id m h
 | .bm _ _ _ _ _::es,id,m,h=>b0m es id m h
 | .it _ _::es,id,m,h=>b0m es id m h
 | .mp _ _::es,id,m,h=>b0m es id m h
 | .vw _ _ _::es,id,m,h=>b0m es id m h
 | .cl _ _ _::es,id,m,h=>b0m es id m h
theorem d0t (hU:UOK U) {Z:Nat -> Prop} {π:Nat -> Value} {σ:U.St} {ρ:Nat -> Value} {w:World} (h:Rel E Z π σ ρ w) {pins:List Nat} (hpin: ∀i,E.pin i↔i∈pins) {al:List (Nat×Nat)} {es:List (EK U.C)} {s:Keep U es} (hd:f1s pins al es σ=some s): ∃Z2 π',(∀b,Z b -> Z2 b) /\ Rel E Z2 π' (b4w al es s) ρ w:=by
 unfold f1s at hd
 split at hd
 ·rename_i hn
  have hfz:FZ σ (f5f σ es):=b0m es
  have hle:=c82 h hfz
  have h:=h.freeze hfz
  obtain ⟨π',g1,g2,g3⟩:=b2z hU h es [] s π hd hn (fun q hq=>by cases hq) (fun q hq=>by cases hq)
  refine ⟨_,π',hle.z,fun t=>g2.slot (cx _ π' (b4w al es s) w) rfl rfl rfl (fun id hid=> ?_) t,fun id=>g2.mem (cx _ π' (b4w al es s) w) rfl rfl rfl (fun id hid=>by
   rcases hid with hid | ⟨q,hq,_⟩
   ·exact g2.us id hid
   ·cases hq) id,fun id b hb=> ?_,g2.dist,h.zlt,h.zin,h.zout,h.ext,fun i hi=> ?_,h.tab⟩
  ·rcases hid with hid | ⟨q,hq,_⟩
   ·exact g2.us id hid
   ·cases hq
  ·obtain ⟨_,old,_,h3⟩:=g2.own id b hb
   exact h.own old b h3
  ·obtain ⟨h1,h2⟩:=g3 i ((hpin i).1 hi)
   refine ⟨?_,h1.trans (h.pin i hi).2⟩
   rcases h2 with h2 | ⟨q,hq,_⟩
   ·exact g2.us i h2
   ·cases hq
 ·cases hd
theorem f3l {X X':Cx} (hz:X'.Z=X.Z) (hw:X'.w=X.w): ∀{as:List U.AV} {vs:List Value},as.all isRp=true -> p9 (a3f X) as vs -> p9 (a3f X') as vs
 | [],[],_,_=>trivial
 | [],_::_,_,h=>h.elim
 | _::_,[],_,h=>h.elim
 | a::as,u::vs,hp,h=>by
   simp only [List.all_cons,Bool.and_eq_true] at hp
   refine ⟨?_,f3l hz hw hp.2 h.2⟩
   have hp1:=hp.1
   cases a<;>try (cases hp1;done)
   exact g2z hw hz h.1
theorem e6k {X X':Cx} {a:U.AV} {v:Value} (hp:e18 a=true) (h:AVR X a v) (hz:X'.Z=X.Z) (hw:X'.w=X.w):AVR X' a v:=by
 have hG:X'.G=X.G:=by unfold Cx.G;rw [hz]
 cases a<;>first
  | exact h
  | (cases hp;done)
  | (simp only [AVR,a3f,b7d,hG,hw] at h ⊢; exact h)
  | (obtain ⟨vs,hv,hr⟩:=h
     exact ⟨vs,hv,f3l hz hw hp hr⟩)
  | (rename_i f a
     cases a<;>try (cases hp;done)
     obtain ⟨r,hv,cs,hc,hr⟩:=h
     exact ⟨r,hv,cs,hc,by rw [hG,hw];exact hr⟩)
theorem f3t {σ:U.St}: ∀(inv:List Nat) (t:Nat),lk t (e81 σ inv)=if t∈inv /\ e18 (σ.slot t)=true then some (σ.slot t) else none
 | [],t=>by simp [e81,lk]
 | i::inv,t=>by
   have ih:=f3t (σ:=σ) inv t
   simp only [e81]
   split
   ·rename_i hp
    show (bif Nat.beq i t then some (σ.slot i) else lk t (e81 σ inv))=_
    cases hk:Nat.beq i t with
    | true=>
      have:=Nat.eq_of_beq_eq_true hk
      subst this
      simp [hp]
    | false=>
      have hne:=Nat.ne_of_beq_eq_false hk
      rw [show (bif false then some (σ.slot i) else lk t (e81 σ inv))=lk t (e81 σ inv) from rfl,ih]
      simp [Ne.symm hne]
   ·rename_i hp
    rw [ih]
    by_cases hti:t=i
    ·subst hti
     simp [hp]
    ·simp [hti]
theorem d31 (σ:U.St) (t:Nat):σ.slot t=(lk t σ.sl).getD .unk:=by
 unfold St.slot
 cases lk t σ.sl<;>rfl
theorem d3y {σ:U.St} {inv:List Nat} {al:List (Nat×Nat)} {es:List (EK U.C)} {s:Keep U es} (t:Nat):(e2n σ inv al es s).slot t=if t∈inv /\ e18 (σ.slot t)=true then σ.slot t else (b4w al es s).slot t:=by
 have e:(e2n σ inv al es s).slot t=(lk t (e81 σ inv++(b4w al es s).sl)).getD .unk:=d31 _ _
 rw [e,c7v,f3t,d31 (b4w al es s)]
 by_cases hh:t∈inv /\ e18 (σ.slot t)=true
 ·rw [if_pos hh,if_pos hh];rfl
 ·rw [if_neg hh,if_neg hh]
theorem d84 {Z:Nat -> Prop} {π':Nat -> Value} {σ:U.St} {ρ:Nat -> Value} {w:World} {inv:List Nat} {al:List (Nat×Nat)} {es:List (EK U.C)} {s:Keep U es} (h:Rel E Z π' (b4w al es s) ρ w) (hs: ∀t,t∈inv -> e18 (σ.slot t)=true -> AVR (cx Z π' (b4w al es s) w) (σ.slot t) (ρ t)):Rel E Z π' (e2n σ inv al es s) ρ w:=by
 have hc:cx Z π' (e2n σ inv al es s) w=cx Z π' (b4w al es s) w:=rfl
 refine ⟨fun t=> ?_,h.mem,h.own,h.dist,h.zlt,h.zin,h.zout,h.ext,h.pin,h.tab⟩
 rw [hc,d3y]
 split
 ·rename_i hh
  exact hs t hh.1 hh.2
 ·exact h.slot t
def Env.re (E:Env) (Z:Nat -> Prop) (w:World):Env:=⟨w,fun b=>(E.G b \/ E.w0.heap.size <= b) /\ ¬Z b,Z,E.pin,E.π0⟩
theorem Rel.re (hU:UOK U) {Z:Nat -> Prop} {π:Nat -> Value} {σ:U.St} {ρ:Nat -> Value} {w:World} (h:Rel E Z π σ ρ w):Rel (E.re Z w) Z π σ ρ w:=
 ⟨h.slot,h.mem,fun id b hb=>by obtain ⟨h1,h2,h3⟩:=h.own id b hb;exact ⟨h1,h2,.inl ⟨h3,h1⟩⟩,h.dist,h.zlt,fun b hb=> .inl hb,fun b hb=>hb,Ext.refl _ _,h.pin,h.tabw hU,fun b hb=>⟨Nat.lt_of_lt_of_le (h.tab.2 b hb).1 h.ext.size,fun hg=>hg.1.elim (h.tab.2 b hb).2 fun hg=>by have:=(h.tab.2 b hb).1;omega⟩⟩
theorem Rel.un {Z Z1:Nat -> Prop} {π π1:Nat -> Value} {σ σ1:U.St} {ρ ρ1:Nat -> Value} {w w1:World} (h0:Rel E Z1 π1 σ1 ρ1 w1) (h:Rel (E.re Z1 w1) Z π σ ρ w):Rel E Z π σ ρ w:=by
 refine ⟨h.slot,h.mem,fun id b hb=> ?_,h.dist,h.zlt,fun b hb=> ?_,fun b hb=>h.zout b (h0.zout b hb),f3g h0.ext h.ext fun x hx=>hx.1,h.pin,h0.tab⟩
 ·obtain ⟨h1,h2,h3⟩:=h.own id b hb
  refine ⟨h1,h2,?_⟩
  rcases h3 with h3 | h3
  ·exact h3.1
  ·exact .inr (Nat.le_trans h0.ext.size h3)
 ·rcases h.zin b hb with h1 | h1 | h1
  ·exact h0.zin b h1
  ·exact .inr h1.1
  ·exact .inr (.inr (Nat.le_trans h0.ext.size h1))
def a9k (n:Nat):Code -> Bool
 | .region _ ops _=>Plan.okTmps ops.toList n&&Plan.okSel ops.toList&&Plan.okAfter ops.toList
 | .seq a b=>a9k n a&&a9k n b
 | .cond c a b=>Operand.below n c&&(a9k n a&&a9k n b)
 | .block _ a=>a9k n a
 | .loop a=>a9k n a
 | _=>true
structure KOK {R:Type} (E:Env) (T:Nat -> Prop) (ρ0:Nat -> Value) (k:Kont U R) (r:R) (Q:Exit -> (Nat -> Value) -> World -> Prop):Prop where
 norm: ∀σ Z π ρ w,(∀t,T t -> ρ t=ρ0 t) -> Rel E Z π σ ρ w -> k.norm σ=some r -> Q .normal ρ w
 exit: ∀i σ Z π ρ w,(∀t,T t -> ρ t=ρ0 t) -> Rel E Z π σ ρ w -> k.exit i σ=some r -> Q (.exit i) ρ w
 ret: ∀σ Z π ρ w,(∀t,T t -> ρ t=ρ0 t) -> Rel E Z π σ ρ w -> k.ret σ=some r -> Q .ret ρ w
theorem d78 {a b:List Nat} (h:f2u a b=true) {x:Nat} (hx:x∈a):x∉b:=fun hb=>by
 have h1:=List.all_eq_true.1 h x hx
 have:(b.any (Nat.beq x))=true:=List.any_eq_true.2 ⟨x,hb,Nat.beq_refl x⟩
 rw [this] at h1;cases h1
theorem e89 {Z:Nat -> Prop} {π:Nat -> Value} {σ:U.St} {ρ:Nat -> Value} {w:World} (h:Rel E Z π σ ρ w) {c:Operand} {e:Bool} (hc:b8v σ c=some e):ev ρ c= .bool e:=by
 unfold b8v at hc
 split at hc
 ·cases hc;rfl
 ·rename_i t
  have hs:=h.slot t
  split at hc
  ·rename_i b hst
   cases hc
   rw [hst] at hs;exact hs
  ·cases hc
 ·cases hc
theorem d1x {σ:U.St}: ∀ts:List Nat,FZ σ (g03 σ ts)
 | [],id,m,h=>by cases h
 | t::ts,id,m,h=>by
   simp only [g03] at h
   split at h
   ·split at h
    ·rename_i e c l hm
     rcases List.mem_cons.1 h with h | h
     ·simp only [Prod.mk.injEq] at h
      obtain ⟨rfl,rfl⟩:=h
      exact ⟨_,_,_,hm,rfl⟩
     ·exact d1x ts id m h
    ·exact d1x ts id m h
   ·exact d1x ts id m h
theorem f0l {Z:Nat -> Prop} {π:Nat -> Value} {σ:U.St} {ρ:Nat -> Value} {w:World} (h:Rel E Z π σ ρ w) (ts:List Nat): ∃Z',Rel E Z' π (frzA σ ts) ρ w:=by
 cases ts with
 | nil=>exact ⟨Z,h⟩
 | cons t ts=>exact ⟨_,h.freeze (d1x (t::ts))⟩
theorem b0b (hU:UOK U) (hΦ:OKΦ P Φ) (hm:P.follows .mixedOrders=true) {pins:List Nat} {R:Type}: ∀(c:Code) (an:Ann U.C) (σ:U.St) (k:Kont U R) (r:R),a9k n c=true -> den P Φ pins c an σ k=some r -> ∀(E:Env),(∀i,E.pin i↔i∈pins) -> ∀(T:Nat -> Prop) (ρ0:Nat -> Value) Q,(∀t,T t -> t∉c0w c) -> KOK E T ρ0 k r Q -> ∀Z π ρ w,(∀t,T t -> ρ t=ρ0 t) -> Rel E Z π σ ρ w -> WP P n c Q ρ w
 | .skip,an,σ,k,r,_,h,E,_,T,ρ0,Q,_,hk,Z,π,ρ,w,hρ,hR=>WP.skip (hk.norm σ Z π ρ w hρ hR h)
 | .region id ops draw,an,σ,k,r,hc,h,E,_,T,ρ0,Q,hT,hk,Z,π,ρ,w,hρ,hR=>by
   simp only [a9k,Bool.and_eq_true] at hc
   obtain ⟨Z,hR⟩:=f0l hR an.fz
   have:=e5w (Q:=Q) (id:=id) hU hΦ hm hc.1.1 hc.1.2 hc.2 h (fun σ' Z π ρ' w hk' hR' h'=>hk.norm σ' Z π ρ' w (fun t ht=>by
    rw [hk' t fun o ho hd=>hT t ht ?_]
    ·exact hρ t ht
    ·exact List.mem_filterMap.2 ⟨o,ho,hd⟩) hR' h') hR
   rwa [Array.toArray_toList] at this
 | .seq a b,an,σ,k,r,hc,h,E,hpin,T,ρ0,Q,hT,hk,Z,π,ρ,w,hρ,hR=>by
   simp only [a9k,Bool.and_eq_true] at hc
   have hTa: ∀t,T t -> t∉c0w a:=fun t ht h=>hT t ht (List.mem_append_left _ h)
   have hTb: ∀t,T t -> t∉c0w b:=fun t ht h=>hT t ht (List.mem_append_right _ h)
   refine WP.seq ?_
   have plain: ∀an1 an2,den P Φ pins a an1 σ ⟨fun σ=>den P Φ pins b an2 σ k,k.exit,k.ret⟩=some r -> WP P n a (e17 (WP P n b Q) Q) ρ w:=by
    intro an1 an2 h
    exact b0b hU hΦ hm a an1 σ _ r hc.1 h E hpin T ρ0 (e17 (WP P n b Q) Q) hTa ⟨fun σ' Z π ρ w hρ' hR' h'=>b0b hU hΦ hm b an2 σ' k r hc.2 h' E hpin T ρ0 Q hTb hk Z π ρ w hρ' hR',fun i σ' Z π ρ w hρ' hR' h'=>hk.exit i σ' Z π ρ w hρ' hR' h',fun σ' Z π ρ w hρ' hR' h'=>hk.ret σ' Z π ρ w hρ' hR' h'⟩ Z π ρ w hρ hR
   cases an with
   | j al es a' b'=>
     refine b0b hU hΦ hm a a' σ _ r hc.1 h E hpin T ρ0 (e17 (WP P n b Q) Q) hTa ⟨fun σ' Z π ρ w hρ' hR' h'=> ?_,fun i σ' Z π ρ w hρ' hR' h'=>hk.exit i σ' Z π ρ w hρ' hR' h',fun σ' Z π ρ w hρ' hR' h'=>hk.ret σ' Z π ρ w hρ' hR' h'⟩ Z π ρ w hρ hR
     obtain ⟨s,hs,h'⟩:=e2x h'
     obtain ⟨Z2,π',_,hR2⟩:=d0t hU hR' hpin hs
     exact b0b hU hΦ hm b b' _ k r hc.2 h' E hpin T ρ0 Q hTb hk Z2 π' ρ w hρ' hR2
   | n=>exact plain _ _ h
   | s a' b'=>exact plain _ _ h
   | l inv al es a'=>exact plain _ _ h
   | g sp=>exact plain _ _ h
   | z _ _=>exact plain _ _ h
 | .cond c a b,an,σ,k,r,hc,h,E,hpin,T,ρ0,Q,hT,hk,Z,π,ρ,w,hρ,hR=>by
   simp only [a9k,Bool.and_eq_true] at hc
   simp only [den] at h
   split at h
   ·rename_i e he
    refine WP.cond (t:=e) hc.1 (e89 hR he) (fun ht=> ?_) (fun hf=> ?_)
    ·rw [if_pos ht] at h
     exact b0b hU hΦ hm a _ σ k r hc.2.1 h E hpin T ρ0 Q (fun t ht h=>hT t ht (List.mem_append_left _ h)) hk Z π ρ w hρ hR
    ·rw [if_neg (by rw [hf];simp)] at h
     exact b0b hU hΦ hm b _ σ k r hc.2.2 h E hpin T ρ0 Q (fun t ht h=>hT t ht (List.mem_append_right _ h)) hk Z π ρ w hρ hR
   ·cases h
 | .block id a,an,σ,k,r,hc,h,E,hpin,T,ρ0,Q,hT,hk,Z,π,ρ,w,hρ,hR=>by
   refine WP.block ?_
   refine b0b hU hΦ hm a an σ _ r hc h E hpin T ρ0 (e5i id Q) hT ⟨fun σ' Z π ρ w hρ' hR' h'=>hk.norm σ' Z π ρ w hρ' hR' h',fun i σ' Z π ρ w hρ' hR' h'=> ?_,fun σ' Z π ρ w hρ' hR' h'=>hk.ret σ' Z π ρ w hρ' hR' h'⟩ Z π ρ w hρ hR
   show (if i=id then Q .normal ρ w else Q (.exit i) ρ w)
   have h':(match Nat.beq i id with | true=>k.norm σ' | false=>k.exit i σ')=some r:=h'
   cases hb:Nat.beq i id with
   | true=>rw [hb] at h';rw [if_pos (Nat.eq_of_beq_eq_true hb)];exact hk.norm σ' Z π ρ w hρ' hR' h'
   | false=>rw [hb] at h';rw [if_neg (Nat.ne_of_beq_eq_false hb)];exact hk.exit i σ' Z π ρ w hρ' hR' h'
 | .loop a,an,σ,k,r,hc,h,E,hpin,T,ρ0,Q,hT,hk,Z,π,ρ,w,hρ,hR=>by
   cases an with
   | l inv al es an=>
     simp only [den] at h
     split at h
     ·rename_i hap
      obtain ⟨s,hs,h⟩:=e2x h
      obtain ⟨Z2,π',hz2,hR2⟩:=d0t hU hR hpin hs
      have hle2:Cx.Le (⟨Z,π',c2r (b4w al es s),w⟩:Cx) (cx Z2 π' (b4w al es s) w):=⟨hz2,Ext.refl _ _,fun _ h=>⟨h,rfl⟩⟩
      have hR3:Rel E Z2 π' (e2n σ inv al es s) ρ w:=d84 hR2 fun t ht hp=>AVR.le hle2 (e6k (X':=⟨Z,π',c2r (b4w al es s),w⟩) hp (hR.slot t) rfl rfl)
      refine WP.loop (fun kk ρ w=> ∃s Z π,(∀t,T t -> ρ t=ρ0 t) /\ Rel E Z π (e2n σ inv al es s) ρ w /\ d8 kk (fun rec s=>den P Φ pins a an (e2n σ inv al es s) ⟨fun σ'=>bindO (f1s pins al es σ') rec,k.exit,k.ret⟩) s=some r) FU ⟨s,Z2,π',hρ,hR3,h⟩ (fun ρ w ⟨_,_,_,_,_,h⟩=>by cases h) ?_
      rintro kk ρ1 w1 ⟨s,Z1,π1,hρ1,hR1,h⟩
      refine b0b hU hΦ hm a an _ _ r hc (show den P Φ pins a an (e2n σ inv al es s) ⟨fun σ'=>bindO (f1s pins al es σ') (d8 kk (fun rec s=>den P Φ pins a an (e2n σ inv al es s) ⟨fun σ'=>bindO (f1s pins al es σ') rec,k.exit,k.ret⟩)),k.exit,k.ret⟩=some r from h) (E.re Z1 w1) hpin (fun t=>T t \/ t∈inv) ρ1 (e17 (fun ρ w=> ∃s Z π,(∀t,T t -> ρ t=ρ0 t) /\ Rel E Z π (e2n σ inv al es s) ρ w /\ d8 kk (fun rec s=>den P Φ pins a an (e2n σ inv al es s) ⟨fun σ'=>bindO (f1s pins al es σ') rec,k.exit,k.ret⟩) s=some r) Q)
       (fun t ht=>ht.elim (hT t) (fun hi=>d78 hap hi)) ⟨fun σ' Z' π' ρ' w' hρ' hR' h'=> ?_,fun i σ' Z' π' ρ' w' hρ' hR' h'=>hk.exit i σ' Z' π' ρ' w' (fun t ht=>(hρ' t (.inl ht)).trans (hρ1 t ht)) (Rel.un hR1 hR') h',fun σ' Z' π' ρ' w' hρ' hR' h'=>hk.ret σ' Z' π' ρ' w' (fun t ht=>(hρ' t (.inl ht)).trans (hρ1 t ht)) (Rel.un hR1 hR') h'⟩ Z1 π1 ρ1 w1 (fun _ _=>rfl) (hR1.re hU)
      obtain ⟨s',hs',h'⟩:=e2x h'
      obtain ⟨Z3,π'',hz3,hR4⟩:=d0t hU hR' hpin hs'
      have hle:Cx.Le (⟨Z1,π'',c2r (b4w al es s'),w1⟩:Cx) (cx Z3 π'' (b4w al es s') w'):=⟨fun b hb=>hz3 b (hR'.zout b hb),hR'.ext.mono fun b hb hz=>hb.2 hz,fun _ h=>⟨h,rfl⟩⟩
      refine ⟨s',Z3,π'',fun t ht=>(hρ' t (.inl ht)).trans (hρ1 t ht),Rel.un hR1 (d84 hR4 fun t ht hp=> ?_),h'⟩
      have h1:=hR1.slot t
      rw [d3y,if_pos ⟨ht,hp⟩] at h1
      rw [hρ' t (.inr ht)]
      exact AVR.le hle (e6k (X':=⟨Z1,π'',c2r (b4w al es s'),w1⟩) hp h1 rfl rfl)
     ·cases h
   | n=>cases h
   | s _ _=>cases h
   | j _ _ _ _=>cases h
   | g _=>cases h
   | z _ _=>cases h
 | .exit id,an,σ,k,r,_,h,E,_,T,ρ0,Q,_,hk,Z,π,ρ,w,hρ,hR=>WP.exit (hk.exit id σ Z π ρ w hρ hR h)
 | .ret,an,σ,k,r,_,h,E,_,T,ρ0,Q,_,hk,Z,π,ρ,w,hρ,hR=>WP.ret (hk.ret σ Z π ρ w hρ hR h)
 | .rangeFunc _ _ _ _,_,_,_,_,_,h,_,_,_,_,_,_,_,_,_,_,_,_,_=>by cases h
 | .scope _,_,_,_,_,_,h,_,_,_,_,_,_,_,_,_,_,_,_,_=>by cases h
 | .label _,_,_,_,_,_,h,_,_,_,_,_,_,_,_,_,_,_,_,_=>by cases h
 | .goto _,_,_,_,_,_,h,_,_,_,_,_,_,_,_,_,_,_,_,_=>by cases h
 | .refuse _,_,_,_,_,_,h,_,_,_,_,_,_,_,_,_,_,_,_,_=>by cases h
end
end Go.SX
namespace Go.SX
open Go Go.PL
section
variable {P:Program} {U:Uni} {Φ:Phi U} {E:Env} {n:Nat}
def c7n (n:Nat) (rs:List ResultVar):Bool:=rs.all fun r=>match r with | .tmp t=>decide (t<n) | .cell t _=>decide (t<n)
def c7h (tmps:Array Value):ResultVar -> Sem Value
 | .tmp t=>pure (tmps.getD t undef)
 | .cell a t=>do loadVar t (<- asAddr (tmps.getD a undef))
theorem c6s {α β:Type} {f:α -> Sem β} {w:World} {p:α -> β -> Prop}: ∀{l:List α},(∀x∈l,∃u,(f x).run P w= .ok u w /\ p x u) -> ∃us,(l.mapM f).run P w= .ok us w /\ p9 p l us
 | [],_=>⟨[],by simp,trivial⟩
 | x::l,h=>by
   obtain ⟨u,hu,hp⟩:=h x (by simp)
   obtain ⟨us,hus,hps⟩:=c6s (l:=l) fun y hy=>h y (by simp [hy])
   refine ⟨u::us,?_,hp,hps⟩
   rw [List.mapM_cons]
   simp [hu,hus]
theorem e8w {Z:Nat -> Prop} {π:Nat -> Value} {σ:U.St} {ρ:Nat -> Value} {w:World} (h:Rel E Z π σ ρ w) {a:U.AV} {u:Value} (ha:b7d (cx Z π σ w) a u):b7d (cx Z π σ w) (f7b σ a) u:=by
 cases a<;>try exact ha
 rename_i id
 simp only [f7b]
 split
 ·rename_i c l hm
  have hmm:=h.mem id
  rw [hm] at hmm
  obtain ⟨_,hu,_⟩:=ha
  show s5 (Rp c) _ _ u l
  rw [hu];exact hmm
 ·exact ha
theorem e3m {σ:U.St} (a:U.AV):a0n (f7b σ a)=a0n a:=by
 cases a<;>try rfl
 simp only [f7b]
 split<;>rfl
theorem e0f {σ:U.St} {a:U.AV} (h:a0y a=true):a0y (f7b σ a)=true:=by
 cases a<;>try exact h
 simp only [f7b]
 split<;>rfl
theorem f8k {Z:Nat -> Prop} {π:Nat -> Value} {σ:U.St} {ρ:Nat -> Value} {w:World} (h:Rel E Z π σ ρ w) {a:U.AV} {u:Value} (ha:a3f (cx Z π σ w) a u):a3f (cx Z π σ w) (stF σ a) u:=by
 cases a<;>try exact ha
 rename_i c fs
 obtain ⟨css,hu,hlay,hp,hr⟩:=ha
 refine ⟨css,hu,?_,?_,?_⟩
 ·rw [<- hlay,List.map_map];exact List.map_congr_left fun a _=>e3m a
 ·rw [List.all_eq_true] at hp⊢
  intro a ha
  obtain ⟨b,hb,rfl⟩:=List.mem_map.1 ha
  exact e0f (hp b hb)
 ·clear hu hlay hp
  induction fs generalizing css with
  | nil=>cases css with
    | nil=>trivial
    | cons _ _=>exact hr.elim
  | cons a fs ih=>cases css with
    | nil=>exact hr.elim
    | cons s css=>
      obtain ⟨u,hu,h1⟩:=hr.1
      exact ⟨⟨u,hu,e8w h h1⟩,ih css hr.2⟩
theorem e6q {σ:U.St}: ∀fs:List U.AV,FZ σ (f6n σ fs)
 | [],id,m,h=>by cases h
 | a::fs,id,m,h=>by
   have skip:(id,m)∈f6n σ fs -> ∃e c l,σ.mem id= .sl e c l /\ m= .fz c l:=fun h=>e6q fs id m h
   cases a<;>try exact skip h
   rename_i id'
   simp only [f6n] at h
   split at h
   ·rename_i e c l hm
    rcases List.mem_cons.1 h with h | h
    ·cases h;exact ⟨e,c,l,hm,rfl⟩
    ·exact skip h
   ·exact skip h
theorem c6m {σ:U.St}: ∀rv:List ResultVar,FZ σ (f6v σ rv)
 | [],id,m,h=>by cases h
 | .tmp t::rv,id,m,h=>c6m rv id m h
 | .cell t ty::rv,id,m,h=>by
   simp only [f6v] at h
   split at h
   ·split at h
    ·rcases List.mem_append.1 h with h | h
     ·exact e6q _ id m h
     ·exact c6m rv id m h
    ·exact c6m rv id m h
   ·exact c6m rv id m h
theorem e8k (hU:UOK U) {Z:Nat -> Prop} {π:Nat -> Value} {σ:U.St} {ρ:Nat -> Value} {w:World} (h:Rel E Z π σ ρ w) {rv:ResultVar} (hc:(match rv with | .tmp t=>decide (t<n) | .cell t _=>decide (t<n))=true) {a:U.AV} (hr:e83 P σ rv=some a):
  ∃u,(c7h (Fr n ρ).tmps rv).run P w= .ok u w /\ AVR (cx Z π σ w) a u:=by
 cases rv with
 | tmp t=>
   have hlt:t<n:=by simpa using hc
   cases hr
   refine ⟨ρ t,?_,h.slot t⟩
   simp [c7h,Frd,hlt]
 | cell t ty=>
   have hlt:t<n:=by simpa using hc
   simp only [e83] at hr
   split at hr
   ·rename_i id hsl
    split at hr
    ·rename_i t0 b hmem
     split at hr
     ·rename_i hf
      have hr:=Option.some.inj hr
      rw [hr] at hf
      have hs:=h.slot t
      rw [hsl] at hs
      have hm:=h.mem id
      rw [hmem] at hm
      obtain ⟨blk,u0,hv,hM,ha⟩:=hm
      have ha:a3f (cx Z π σ w) a u0:=by rw [<- hr];exact f8k h ha
      have hL:Loc (cx Z π σ w) a ⟨blk,0,none⟩:=⟨u0,ha,hM.ca⟩
      obtain ⟨u,hu,hrun⟩:=d9y (P:=P) hU hf hL
      refine ⟨u,?_,AVR.of1 hu⟩
      have hρ:ρ t= .pointer (some ⟨blk,0,none⟩):=by rw [show ρ t=π id from hs.2.1];exact hv
      have hrun:(Instr.loadAt ty (.pointer (some ⟨blk,0,none⟩))).run P w= .ok u w:=hrun
      have hl:(loadVar ty ⟨blk,0,none⟩).run P w= .ok u w:=by simpa [Instr.loadAt,Instr.sureAddr] using hrun
      simp [c7h,Frd,hlt,hρ,asAddr,hl]
     ·cases hr
    ·cases hr
   ·cases hr
theorem d6z {fn:Func} {tmps:Array Value} {w:World} {us:List Value} (h:(fn.results.toList.mapM (c7h tmps)).run P w= .ok us w):(results fn tmps).run P w= .ok (f9u us) w:=by
 have e:results fn tmps=(do
   let vs <- fn.results.mapM (c7h tmps)
   pure (if h:vs.size=1 then vs[0] else .tuple vs):Sem Value):=by
  unfold results
  congr 1
 have h2:(fn.results.mapM (c7h tmps)).run P w= .ok us.toArray w:=by
  rw [Array.mapM_eq_mapM_toList]
  simp [h]
 rw [e,Sem.run_bind,h2]
 simp only [Result.andThen_ok]
 cases us with
 | nil=>rfl
 | cons u us=>cases us with
   | nil=>rfl
   | cons u' us=>simp [f9u]
def g40 (σ:U.St) (π:Nat -> Value) (o:Option Nat) (v:Value):Prop:=match o with
 | none=>hdV v=none
 | some id=>v=π id /\ ∀b,hdV v=some b -> MB (σ.mem id) (π id) b
theorem c7r (hU:UOK U) {Z:Nat -> Prop} {π:Nat -> Value} {σ:U.St} {ρ:Nat -> Value} {w:World} (h:Rel E Z π σ ρ w): ∀(rs:List (RK U.C)) (rvs:List ResultVar) (us0:List Nat) (x:Ress U rs) (vals:List Value),e0e P σ us0 rs rvs=some x -> p9 (fun r u=> ∀a,e83 P σ r=some a -> AVR (cx Z π σ w) a u) rvs vals ->
  ∃(fz:List (Nat×U.MC)) (ow:List (Option Nat)),FZ σ fz /\ (∀q∈fz,q.1∉us0) /\ p9 (g40 σ π) ow (c48 rs vals) /\ (∀id,some id∈ow -> id∉us0 /\ ∀q∈fz,q.1≠id) /\ (∀(i j:Nat) id,i≠j -> ow[i]? =some (some id) -> ow[j]? ≠some (some id)) /\
   ∀Z',(∀b,Z b -> Z' b) -> (∀b,b4i σ π fz b -> Z' b) -> RRs (cz Z' w) rs x vals
 | [],[],us0,x,[],_,_=>⟨[],[],(fun _ _ h=>by cases h),(fun _ h=>by cases h),trivial,(fun _ h=>by cases h),(fun i j id _ h=>by simp at h),fun _ _ _=>trivial⟩
 | [],[],us0,x,_::_,_,h=>h.elim
 | [],_::_,us0,x,vals,hd,_=>by cases hd
 | r::rs,[],us0,x,vals,hd,_=>by cases r<;>cases hd
 | r::rs,rv::rvs,us0,x,[],_,h=>h.elim
 | .v c::rs,rv::rvs,us0,(x,xs),u::vals,hd,hv=>by
   simp only [e0e] at hd
   split at hd
   ·rename_i a ha
    obtain ⟨h1,h2⟩:=a2f hd
    obtain ⟨fz,ow,g1,g2,g3,g4,g5,g6⟩:=c7r hU h rs rvs us0 xs vals h2 hv.2
    refine ⟨fz,ow,g1,g2,g3,g4,g5,fun Z' hz hb=>⟨?_,g6 Z' hz hb⟩⟩
    exact a83 (X':=cz Z' w) (a2r hU c x).1 (b98 hU h1 (a9q (d01 hU h1) (hv.1 a ha))) rfl hz
   ·cases hd
 | .ls c::rs,rv::rvs,us0,(x,xs),u::vals,hd,hv=>by
   simp only [e0e] at hd
   split at hd
   ·rename_i a ha
    split at hd
    ·rename_i x' us' hl
     obtain ⟨h1,h2⟩:=a2f hd
     have hx:x'=x:=Option.some.inj h1
     subst hx
     obtain ⟨fz,ow,g1,g2,g3,g4,g5,g6⟩:=c7r hU h rs rvs us' xs vals h2 hv.2
     have hav:=hv.1 a ha
     have stay:us'=us0 -> (∀Z',(∀b,Z b -> Z' b) -> s5 (Rp c) (cz Z' w).G w u x') -> ∃(fz:List (Nat×U.MC)) (ow:List (Option Nat)),FZ σ fz /\ (∀q∈fz,q.1∉us0) /\ p9 (g40 σ π) ow (c48 (.ls c::rs) (u::vals)) /\ (∀id,some id∈ow -> id∉us0 /\ ∀q∈fz,q.1≠id) /\ (∀(i j:Nat) id,i≠j -> ow[i]? =some (some id) -> ow[j]? ≠some (some id)) /\
       ∀Z',(∀b,Z b -> Z' b) -> (∀b,b4i σ π fz b -> Z' b) -> RRs (cz Z' w) (.ls c::rs) (x',xs) (u::vals):=by
      intro e hr
      subst e
      exact ⟨fz,ow,g1,g2,g3,g4,g5,fun Z' hz hb=>⟨hr Z' hz,g6 Z' hz hb⟩⟩
     have wk: ∀{l:List (U.T c)},s5 (Rp c) (cx Z π σ w).G w u l -> ∀Z',(∀b,Z b -> Z' b) -> s5 (Rp c) (cz Z' w).G w u l:=fun hr Z' hz=>s5.weaken hr fun b _ hb hz'=>hb (hz b hz')
     unfold resL at hl
     split at hl
     ·split at hl
      ·rename_i l hc
       obtain ⟨he,hx⟩:=a5u (G:=noG) (w:=w) hc
       subst he;subst hx
       cases hl
       exact stay rfl (wk hav)
      ·cases hl
     ·cases hl
      exact stay rfl fun Z' _=> .inl ⟨hav,rfl⟩
     ·rename_i id
      have hm:=h.mem id
      split at hl
      ·rename_i e c' l' hany hmem
       split at hl
       ·rename_i l hc
        obtain ⟨he,hx⟩:=a5u (G:=noG) (w:=w) hc
        subst he;subst hx
        cases hl
        rw [hmem] at hm
        have hnotin:id∉us0:=fun hin=>by
         have:(us0.any (Nat.beq id))=true:=List.any_eq_true.2 ⟨id,hin,Nat.beq_refl id⟩
         rw [hany] at this;cases this
        refine ⟨(id,.fz c' x')::fz,ow,fun i m hh=> ?_,fun q hq=> ?_,g3,fun i hi=> ?_,g5,fun Z' hz hb=>⟨?_,g6 Z' hz fun b ⟨q,hq,hb'⟩=>hb b ⟨q,List.mem_cons_of_mem _ hq,hb'⟩⟩⟩
        ·rcases List.mem_cons.1 hh with e1 | e1
         ·cases e1;exact ⟨e,c',x',hmem,rfl⟩
         ·exact g1 i m e1
        ·rcases List.mem_cons.1 hq with e1 | e1
         ·rw [e1];exact hnotin
         ·exact fun h=>g2 q e1 (List.mem_cons_of_mem _ h)
        ·obtain ⟨k1,k2⟩:=g4 i hi
         refine ⟨fun h=>k1 (List.mem_cons_of_mem _ h),fun q hq=> ?_⟩
         rcases List.mem_cons.1 hq with e1 | e1
         ·rw [e1];exact fun e2=>k1 (by rw [<- e2];exact List.mem_cons_self)
         ·exact k2 q e1
        ·show s5 (Rp c') (cz Z' w).G w u x'
         rw [show u=π id from hav.2.1]
         refine c8l (X:=cx Z π σ w) (Z':=Z') hm hz fun b hb'=>hb b ⟨_,List.mem_cons_self,?_⟩
         show MB (σ.mem id) (π id) b
         rw [hmem]
         obtain ⟨css,hO,_⟩:=hm
         obtain ⟨ad,cap,hv,_⟩:=hO.shape
         exact (b9i hv).1 hb'
       ·cases hl
      ·rename_i c' l' hmem
       split at hl
       ·rename_i l hc
        obtain ⟨he,hx⟩:=a5u (G:=noG) (w:=w) hc
        subst he;subst hx
        cases hl
        rw [hmem] at hm
        exact stay rfl (wk (by rw [show u=π id from hav.2.1];exact hm))
       ·cases hl
      ·cases hl
     ·cases hl
    ·cases hd
   ·cases hd
 | .ow e c::rs,rv::rvs,us0,(x,xs),u::vals,hd,hv=>by
   simp only [e0e] at hd
   split at hd
   ·rename_i a ha
    split at hd
    ·rename_i x' us' hl
     obtain ⟨h1,h2⟩:=a2f hd
     have hx:x'=x:=Option.some.inj h1
     subst hx
     obtain ⟨fz,ow,g1,g2,g3,g4,g5,g6⟩:=c7r hU h rs rvs us' xs vals h2 hv.2
     have hav:=hv.1 a ha
     unfold resO at hl
     split at hl
     ·cases hl
      have hu:u= .slice none 0 0:=hav
      refine ⟨fz,none::ow,g1,g2,⟨by rw [hu];rfl,g3⟩,fun i hi=>g4 i (by simpa using hi),fun i j id hne hi=> ?_,fun Z' hz hb=>⟨?_,g6 Z' hz hb⟩⟩
      ·cases i with
       | zero=>simp at hi
       | succ i=>cases j with
         | zero=>simp
         | succ j=>exact g5 i j id (by omega) hi
      ·rw [hu];exact ⟨[],Own.nil _ _ _ _ _,trivial⟩
     ·rename_i id
      have hm:=h.mem id
      split at hl
      ·rename_i e' c' l' hany hmem
       split at hl
       ·rename_i l hbe hc
        have hee:=Nat.eq_of_beq_eq_true hbe
        subst hee
        obtain ⟨he,hx⟩:=a5u (G:=noG) (w:=w) hc
        subst he;subst hx
        cases hl
        have hnotin:id∉us0:=fun hin=>by
         have:(us0.any (Nat.beq id))=true:=List.any_eq_true.2 ⟨id,hin,Nat.beq_refl id⟩
         rw [hany] at this;cases this
        have hne: ∀i,some i∈ow -> i≠id:=fun i hi e1=>(g4 i hi).1 (by rw [e1];exact List.mem_cons_self)
        have hu:u=π id:=hav.2.1
        refine ⟨fz,some id::ow,g1,fun q hq h=>g2 q hq (List.mem_cons_of_mem _ h),⟨⟨hu,fun b hb=> ?_⟩,g3⟩,fun i hi=> ?_,fun i j k hij hi hj=> ?_,fun Z' hz hb=>⟨?_,g6 Z' hz hb⟩⟩
        ·rw [hmem,<- hu];exact hb
        ·rcases List.mem_cons.1 hi with e1 | e1
         ·cases e1
          exact ⟨hnotin,fun q hq e2=>g2 q hq (by rw [e2];exact List.mem_cons_self)⟩
         ·obtain ⟨k1,k2⟩:=g4 i e1
          exact ⟨fun h=>k1 (List.mem_cons_of_mem _ h),k2⟩
        ·cases i with
         | zero=>
           simp at hi
           cases j with
           | zero=>exact hij rfl
           | succ j=>
             have hj:ow[j]? =some (some k):=by simpa using hj
             exact hne k (List.mem_of_getElem? hj) hi.symm
         | succ i=>cases j with
           | zero=>
             simp at hj
             have hi:ow[i]? =some (some k):=by simpa using hi
             exact hne k (List.mem_of_getElem? hi) hj.symm
           | succ j=>exact g5 i j k (by omega) hi hj
        ·rw [hmem] at hm
         show MR (cz Z' w) (.sl e c' x') u
         rw [hu]
         obtain ⟨css,hO,hr⟩:=hm
         exact ⟨css,hO,hr.mono fun r xv hh=>(Rp c').weaken hh fun b _ hb hz'=>hb (hz b hz')⟩
       ·cases hl
      ·cases hl
     ·cases hl
    ·cases hd
   ·cases hd
 | .bo t c::rs,rv::rvs,us0,(x,xs),u::vals,hd,hv=>by
   simp only [e0e] at hd
   split at hd
   case h_2=>cases hd
   rename_i a ha
   split at hd
   case h_2=>cases hd
   rename_i x' us' hl
   obtain ⟨h1,h2⟩:=a2f hd
   have hx:x'=x:=Option.some.inj h1
   subst hx
   obtain ⟨fz,ow,g1,g2,g3,g4,g5,g6⟩:=c7r hU h rs rvs us' xs vals h2 hv.2
   have hav:=hv.1 a ha
   unfold resP at hl
   split at hl
   ·cases hl
    have hu:u= .pointer none:=hav
    refine ⟨fz,none::ow,g1,g2,⟨by rw [hu];rfl,g3⟩,fun i hi=>g4 i (by simpa using hi),fun i j id hne hi=> ?_,fun Z' hz hb=>⟨hu,g6 Z' hz hb⟩⟩
    cases i with
    | zero=>simp at hi
    | succ i=>cases j with
      | zero=>simp
      | succ j=>exact g5 i j id (by omega) hi
   ·rename_i id
    have hm:=h.mem id
    split at hl
    case h_2=>cases hl
    rename_i t' b hany hmem
    split at hl
    case h_2=>cases hl
    rename_i xv hbe hp
    have hee:=Nat.eq_of_beq_eq_true hbe
    subst hee
    cases hl
    have hnotin:id∉us0:=fun hin=>by
     have:(us0.any (Nat.beq id))=true:=List.any_eq_true.2 ⟨id,hin,Nat.beq_refl id⟩
     rw [hany] at this;cases this
    have hne: ∀i,some i∈ow -> i≠id:=fun i hi e1=>(g4 i hi).1 (by rw [e1];exact List.mem_cons_self)
    have hu:u=π id:=hav.2.1
    refine ⟨fz,some id::ow,g1,fun q hq h=>g2 q hq (List.mem_cons_of_mem _ h),⟨⟨hu,fun b hb=> ?_⟩,g3⟩,fun i hi=> ?_,fun i j k hij hi hj=> ?_,fun Z' hz hb=>⟨?_,g6 Z' hz hb⟩⟩
    ·rw [hmem,<- hu];exact hb
    ·rcases List.mem_cons.1 hi with e1 | e1
     ·cases e1
      exact ⟨hnotin,fun q hq e2=>g2 q hq (by rw [e2];exact List.mem_cons_self)⟩
     ·obtain ⟨k1,k2⟩:=g4 i e1
      exact ⟨fun h=>k1 (List.mem_cons_of_mem _ h),k2⟩
    ·cases i with
     | zero=>
       simp at hi
       cases j with
       | zero=>exact hij rfl
       | succ j=>
         have hj:ow[j]? =some (some k):=by simpa using hj
         exact hne k (List.mem_of_getElem? hj) hi.symm
     | succ i=>cases j with
       | zero=>
         simp at hj
         have hi:ow[i]? =some (some k):=by simpa using hi
         exact hne k (List.mem_of_getElem? hi) hj.symm
       | succ j=>exact g5 i j k (by omega) hi hj
    ·rw [hmem] at hm
     obtain ⟨blk,u1,hv1,hM,hr⟩:=hm
     show MR (cz Z' w) (.box t (inj c xv)) u
     exact ⟨blk,u1,by rw [hu];exact hv1,hM,a83 (X':=cz Z' w) (a2r hU c xv).1 (b98 hU hp hr) rfl hz⟩
   ·cases hl
theorem b6r {C:Type}: ∀(ps:List (PK C)) (k i:Nat),i∈ioI k ps -> k <= i
 | [],k,i,h=>by cases h
 | .io t c::ps,k,i,h=>by
   rcases List.mem_cons.1 h with e | e
   ·omega
   ·have:=b6r ps (k+1) i e;omega
 | .im t c m::ps,k,i,h=>by
   rcases List.mem_cons.1 h with e | e
   ·omega
   ·have:=b6r ps (k+1) i e;omega
 | .po b f e c::ps,k,i,h=>by have:=b6r ps (k+1) i h;omega
 | .so e c::ps,k,i,h=>by
   rcases List.mem_cons.1 h with e | e
   ·omega
   ·have:=b6r ps (k+1) i e;omega
 | .cl f cs::ps,k,i,h=>by have:=b6r ps (k+1) i h;omega
 | .bn f c::ps,k,i,h=>by have:=b6r ps (k+1) i h;omega
 | .km f t::ps,k,i,h=>by have:=b6r ps (k+1) i h;omega
 | .vl f t c::ps,k,i,h=>by have:=b6r ps (k+1) i h;omega
 | .v c::ps,k,i,h=>by have:=b6r ps (k+1) i h;omega
 | .ls c::ps,k,i,h=>by have:=b6r ps (k+1) i h;omega
 | .ow e c::ps,k,i,h=>by have:=b6r ps (k+1) i h;omega
 | .rp t c::ps,k,i,h=>by have:=b6r ps (k+1) i h;omega
theorem d6h: ∀(ps:List (PK U.C)) (k i:Nat),i∈ioI k ps↔k <= i /\ c53 ps (i-k)
 | [],k,i=>by simp [ioI,c53]
 | p::ps,k,i=>by
   have ih:=d6h ps (k+1) i
   have tl:k+1 <= i -> (c53 (p::ps) (i-k)↔c53 ps (i-(k+1))):=fun hk=>by
    rw [show i-k=(i-(k+1))+1 by omega]
    simp [c53]
   by_cases hik:i=k
   ·subst hik
    have hno:i∉ioI (i+1) ps:=fun h=>by have:=b6r ps (i+1) i h;omega
    cases p<;>simp [ioI,c53,hno]
   ·cases p<;>simp only [ioI,List.mem_cons,hik,false_or]<;>rw [ih]<;>(constructor<;>intro ⟨h1,h2⟩<;>first | exact ⟨by omega,(tl (by omega)).2 h2⟩ | exact ⟨by omega,(tl (by omega)).1 h2⟩)
def b2h (σ:U.St) (π:Nat -> Value):List (PK U.C) -> List Value -> List Value
 | .po b f _ _::ps,u::us=>(match e2j σ b f with | some j=>π j | none=>u)::b2h σ π ps us
 | _::ps,u::us=>u::b2h σ π ps us
 | _,us=>us
theorem c9o (σ:U.St) (π:Nat -> Value): ∀(ps:List (PK U.C)) (us:List Value),(b2h σ π ps us).length=us.length
 | [],us=>by cases us<;>rfl
 | p::ps,[]=>by cases p<;>rfl
 | p::ps,u::us=>by cases p<;>simp [b2h,c9o σ π ps us]
theorem c8o (σ:U.St) (π:Nat -> Value): ∀(ps:List (PK U.C)) (us:List Value) (i:Nat) (p:PK U.C),ps[i]? =some p -> d2l p=false -> (b2h σ π ps us)[i]? =us[i]?
 | [],us,i,p,h,_=>by simp at h
 | p0::ps,[],i,p,h,_=>by cases p0<;>rfl
 | p0::ps,u::us,0,p,h,hn=>by
   simp at h;subst h
   cases p0<;>first | rfl | cases hn
 | p0::ps,u::us,i+1,p,h,hn=>by
   have:=c8o σ π ps us i p (by simpa using h) hn
   cases p0<;>simpa [b2h] using this
theorem d3z (σ:U.St) (π:Nat -> Value): ∀(ps:List (PK U.C)) (us:List Value) (i b f j:Nat) (e:TypeId) (c:U.C),ps[i]? =some (.po b f e c) -> i<us.length -> e2j σ b f=some j -> (b2h σ π ps us)[i]? =some (π j)
 | [],us,i,b,f,j,e,c,h,_,_=>by simp at h
 | p0::ps,[],i,b,f,j,e,c,h,hl,_=>by simp at hl
 | p0::ps,u::us,0,b,f,j,e,c,h,_,hp=>by
   simp at h;subst h
   simp [b2h,hp]
 | p0::ps,u::us,i+1,b,f,j,e,c,h,hl,hp=>by
   have:=d3z σ π ps us i b f j e c (by simpa using h) (by simpa using hl) hp
   cases p0<;>simpa [b2h] using this
theorem e77 {σ:U.St}: ∀(ps:List (PK U.C)) (k:Nat) (os:Outs U ps),c6g σ k ps=some os -> ∀(i b f:Nat) (e:TypeId) (c:U.C),ps[i]? =some (.po b f e c) -> ∃j,e2j σ b f=some j
 | [],k,os,_,i,b,f,e,c,h=>by simp at h
 | p::ps,k,os,hd,i,b,f,e,c,h=>by
   have step: ∀os',c6g σ (k+1) ps=some os' -> 0<i -> ∃j,e2j σ b f=some j:=fun os' hd' hi=>e77 ps (k+1) os' hd' (i-1) b f e c (by rw [show i=(i-1)+1 by omega] at h;simpa using h)
   have pos:d2l p=false -> 0<i:=fun hn=>by
    rcases Nat.eq_zero_or_pos i with e1 | e1
    ·subst e1;simp at h;subst h;cases hn
    ·exact e1
   cases p with
   | v c=>exact step os hd (pos rfl)
   | ls c=>exact step os hd (pos rfl)
   | ow e c=>exact step os hd (pos rfl)
   | rp t c=>exact step os hd (pos rfl)
   | cl f cs=>exact step os hd (pos rfl)
   | bn f c=>exact step os hd (pos rfl)
   | km f t=>exact step os hd (pos rfl)
   | vl f t c=>exact step os hd (pos rfl)
   | io t c=>
     obtain ⟨o,os⟩:=os
     simp only [c6g] at hd
     split at hd
     ·split at hd
      ·exact step os (a2f hd).2 (pos rfl)
      ·cases hd
     ·cases hd
   | so e c=>
     obtain ⟨o,os⟩:=os
     simp only [c6g] at hd
     split at hd
     ·split at hd
      ·exact step os (a2f hd).2 (pos rfl)
      ·cases hd
     ·cases hd
   | im t c m=>
     obtain ⟨o,os⟩:=os
     simp only [c6g] at hd
     split at hd
     ·split at hd
      ·exact step os (a2f hd).2 (pos rfl)
      ·cases hd
     ·cases hd
   | po b0 f0 e0 c0=>
     obtain ⟨o,os⟩:=os
     simp only [c6g] at hd
     split at hd
     case h_2=>cases hd
     rename_i j hj
     split at hd
     case h_2=>cases hd
     split at hd
     case h_2=>cases hd
     rcases Nat.eq_zero_or_pos i with e1 | e1
     ·subst e1;simp at h;obtain ⟨rfl,rfl,_⟩:=h;exact ⟨j,hj⟩
     ·exact step os (a2f hd).2 e1
theorem b1j (hU:UOK U) {Z:Nat -> Prop} {π:Nat -> Value} {σ:U.St} {ρ:Nat -> Value} {w:World} (h:Rel E Z π σ ρ w): ∀(ps:List (PK U.C)) (k:Nat) (os:Outs U ps) (us:List Value),c6g σ k ps=some os -> us.length=ps.length -> (∀(j:Nat) v,us[j]? =some v -> (k+j)∈ioI k ps -> π (k+j)=v) ->
  (∀X':Cx,(∀b,Z b -> X'.Z b) -> X'.w=w -> (∀(i:Nat) t c m,ps[i]? =some (.im t c m) -> ∀q∈m,∃j,e2j σ (k+i) q.1=some j /\ X'.us q.2 /\ X'.π q.2=π j) -> OR X' ps os (b2h σ π ps us)) /\ p9 (fun id v=>v=π id /\ ∀b,hdV v=some b -> MB (σ.mem id) (π id) b) (ioP σ k ps) (ioB ps (b2h σ π ps us))
 | [],k,os,[],_,_,_=>⟨fun _ _ _ _=>trivial,trivial⟩
 | [],k,os,_::_,_,hl,_=>by simp at hl
 | _::_,k,os,[],_,hl,_=>by simp at hl
 | p::ps,k,os,u::us,hd,hl,hπ=>by
   have hπ': ∀(j:Nat) v,us[j]? =some v -> (k+1+j)∈ioI (k+1) ps -> π (k+1+j)=v:=fun j v hv hm=>by
    have:=hπ (j+1) v (by simpa using hv)
    rw [show k+(j+1)=k+1+j by omega] at this
    refine this ?_
    cases p<;>simp [ioI,hm]
   have hl':us.length=ps.length:=by simpa using hl
   have sub: ∀{X':Cx},(∀(i:Nat) t c m,(p::ps)[i]? =some (.im t c m) -> ∀q∈m,∃j,e2j σ (k+i) q.1=some j /\ X'.us q.2 /\ X'.π q.2=π j) -> ∀(i:Nat) t c m,ps[i]? =some (.im t c m) -> ∀q∈m,∃j,e2j σ (k+1+i) q.1=some j /\ X'.us q.2 /\ X'.π q.2=π j:=fun hm i t c m hp q hq=>by
    have:=hm (i+1) t c m (by simpa using hp) q hq
    rwa [show k+(i+1)=k+1+i by omega] at this
   cases p with
   | v c=>obtain ⟨g1,g2⟩:=b1j hU h ps (k+1) os us hd hl' hπ';exact ⟨fun X' hz hw hm=>g1 X' hz hw (sub hm),g2⟩
   | ls c=>obtain ⟨g1,g2⟩:=b1j hU h ps (k+1) os us hd hl' hπ';exact ⟨fun X' hz hw hm=>g1 X' hz hw (sub hm),g2⟩
   | ow e c=>obtain ⟨g1,g2⟩:=b1j hU h ps (k+1) os us hd hl' hπ';exact ⟨fun X' hz hw hm=>g1 X' hz hw (sub hm),g2⟩
   | rp t c=>obtain ⟨g1,g2⟩:=b1j hU h ps (k+1) os us hd hl' hπ';exact ⟨fun X' hz hw hm=>g1 X' hz hw (sub hm),g2⟩
   | cl f cs=>obtain ⟨g1,g2⟩:=b1j hU h ps (k+1) os us hd hl' hπ';exact ⟨fun X' hz hw hm=>g1 X' hz hw (sub hm),g2⟩
   | bn f c=>obtain ⟨g1,g2⟩:=b1j hU h ps (k+1) os us hd hl' hπ';exact ⟨fun X' hz hw hm=>g1 X' hz hw (sub hm),g2⟩
   | km f t=>obtain ⟨g1,g2⟩:=b1j hU h ps (k+1) os us hd hl' hπ';exact ⟨fun X' hz hw hm=>g1 X' hz hw (sub hm),g2⟩
   | vl f t c=>obtain ⟨g1,g2⟩:=b1j hU h ps (k+1) os us hd hl' hπ';exact ⟨fun X' hz hw hm=>g1 X' hz hw (sub hm),g2⟩
   | io t c=>
     obtain ⟨o,os⟩:=os
     simp only [c6g] at hd
     split at hd
     ·rename_i t' b hmem
      split at hd
      ·rename_i hbe
       have hee:=Nat.eq_of_beq_eq_true hbe
       subst hee
       obtain ⟨h1,h2⟩:=a2f hd
       obtain ⟨g1,g2⟩:=b1j hU h ps (k+1) os us h2 hl' hπ'
       have hu:π k=u:=hπ 0 u rfl (by simp [ioI])
       have hm:=h.mem k
       rw [hmem] at hm
       obtain ⟨blk,u1,hv,hM,hr⟩:=hm
       refine ⟨fun X' hz hw hmk=>⟨⟨blk,u1,by rw [<- hu];exact hv,by rw [hw];exact hM,?_⟩,g1 X' hz hw (sub hmk)⟩,⟨hu.symm,fun bb hb=> ?_⟩,g2⟩
       ·exact a83 (X':=X') (a2r hU c o).1 (b98 hU h1 hr) hw hz
       ·rw [hmem,hu];exact hb
      ·cases hd
     ·cases hd
   | im t c m=>
     obtain ⟨o,os⟩:=os
     simp only [c6g] at hd
     split at hd
     ·rename_i t' c' fs hmem
      split at hd
      ·rename_i hbe
       simp only [Bool.and_eq_true] at hbe
       have hee:=Nat.eq_of_beq_eq_true hbe.1
       subst hee
       have hcc:=b8i hbe.2
       subst hcc
       obtain ⟨h1,h2⟩:=a2f hd
       obtain ⟨g1,g2⟩:=b1j hU h ps (k+1) os us h2 hl' hπ'
       have hu:π k=u:=hπ 0 u rfl (by simp [ioI])
       have hm:=h.mem k
       rw [hmem] at hm
       obtain ⟨blk,u1,hv,hM,css,hu1,hlay,hpp,hr⟩:=hm
       refine ⟨fun X' hz hw hmk=>⟨?_,g1 X' hz hw (sub hmk)⟩,⟨hu.symm,fun bb hb=> ?_⟩,g2⟩
       ·obtain ⟨k1,k2,k3⟩:=d0v hU (X:=cx Z π σ w) (X':=X') hlay hpp hr h1 hw hz fun j jd hj=>by
         obtain ⟨i,hi,hus,hpi⟩:=hmk 0 t c m rfl (j,jd) hj
         have hi:c5y fs j=some i:=by
          have:e2j σ (k+0) j=c5y fs j:=by simp [e2j,hmem]
          rw [<- this];exact hi
         exact ⟨i,c0k hi,hus,hpi⟩
        exact ⟨blk,u1,by rw [<- hu];exact hv,by rw [hw];exact hM,css,hu1,k1,k2,k3⟩
       ·rw [hmem,hu];exact hb
      ·cases hd
     ·cases hd
   | so e0 c0=>
     obtain ⟨o,os⟩:=os
     simp only [c6g] at hd
     split at hd
     case h_2=>cases hd
     rename_i e' c' l hmem
     split at hd
     case h_2=>cases hd
     rename_i hbe
     have hee:=Nat.eq_of_beq_eq_true hbe
     subst hee
     obtain ⟨h1,h2⟩:=a2f hd
     obtain ⟨he,hx⟩:=a5u (G:=noG) (w:=w) h1
     have hx:o=he▸l:=hx
     subst he;subst hx
     obtain ⟨g1,g2⟩:=b1j hU h ps (k+1) os us h2 hl' hπ'
     have hu:π k=u:=hπ 0 u rfl (by simp [ioI])
     have hm:=h.mem k
     rw [hmem] at hm
     refine ⟨fun X' hz hw hmk=>⟨?_,g1 X' hz hw (sub hmk)⟩,⟨hu.symm,fun bb hb=>by rw [hmem,hu];exact hb⟩,g2⟩
     obtain ⟨css,hO,hr⟩:=hm
     refine ⟨css,by rw [<- hu,hw];exact hO,hr.mono fun r x hh=> ?_⟩
     rw [hw]
     exact (Rp _).weaken hh fun b _ hb hz'=>hb (hz b hz')
   | po b0 f0 e0 c0=>
     obtain ⟨o,os⟩:=os
     simp only [c6g] at hd
     split at hd
     case h_2=>cases hd
     rename_i j hj
     split at hd
     case h_2=>cases hd
     rename_i e' c' l hmem
     split at hd
     case h_2=>cases hd
     rename_i hbe
     have hee:=Nat.eq_of_beq_eq_true hbe
     subst hee
     obtain ⟨h1,h2⟩:=a2f hd
     obtain ⟨he,hx⟩:=a5u (G:=noG) (w:=w) h1
     have hx:o=he▸l:=hx
     subst he;subst hx
     obtain ⟨g1,g2⟩:=b1j hU h ps (k+1) os us h2 hl' hπ'
     have hm:=h.mem j
     rw [hmem] at hm
     simp only [b2h,ioP,hj]
     refine ⟨fun X' hz hw hmk=>⟨?_,g1 X' hz hw (sub hmk)⟩,⟨rfl,fun bb hb=>by rw [hmem];exact hb⟩,g2⟩
     obtain ⟨css,hO,hr⟩:=hm
     refine ⟨css,by rw [hw];exact hO,hr.mono fun r x hh=> ?_⟩
     rw [hw]
     exact (Rp _).weaken hh fun b _ hb hz'=>hb (hz b hz')
theorem d91 {all:List (PK U.C)}: ∀(ps:List (PK U.C)) (k:Nat),c2t all k ps=true -> ∀(i:Nat) t c m q,ps[i]? =some (.im t c m) -> q∈m -> ∃e c',all[q.2]? =some (.po (k+i) q.1 e c')
 | [],k,_,i,t,c,m,q,h,_=>by simp at h
 | p0::ps,k,h,i,t,c,m,q,hp,hq=>by
   have step:c2t all (k+1) ps=true:=by
    cases p0<;>first
     | exact h
     | (simp only [c2t,Bool.and_eq_true] at h;exact h.2)
   cases i with
   | zero=>
     simp at hp
     subst hp
     simp only [c2t,Bool.and_eq_true] at h
     have h1:=List.all_eq_true.1 h.1 q hq
     split at h1
     ·rename_i b f e c' hx
      simp only [Bool.and_eq_true] at h1
      have e1:=Nat.eq_of_beq_eq_true h1.1
      have e2:=Nat.eq_of_beq_eq_true h1.2
      exact ⟨e,c',by rw [hx,e1,e2];rfl⟩
     ·cases h1
   | succ i=>
     obtain ⟨e,c',hx⟩:=d91 ps (k+1) step i t c m q (by simpa using hp) hq
     exact ⟨e,c',by rw [hx,show k+1+i=k+(i+1) by omega]⟩
theorem e5k (hU:UOK U) {s:Sig U} {w0:World} {G Z0:Nat -> Prop} {us:List Value} (hlen:us.length=s.ps.length) (hmi:c2t s.ps 0 s.ps=true) {Z:Nat -> Prop} {π:Nat -> Value} {σ:U.St} {ρ:Nat -> Value} {w:World} (h:Rel ⟨w0,G,Z0,c53 s.ps,d0a us⟩ Z π σ ρ w) {fn:Func} (hc:c7n n fn.results.toList=true) {r:Ress U s.rs×Outs U s.ps} (hr:g66 P s fn.results.toList σ=some r):
  ∃v,(results fn (Fr n ρ).tmps).run P w= .ok v w /\ Post s Z0 G w0 us r v w:=by
 unfold g66 at hr
 split at hr
 case h_2=>cases hr
 rename_i hnd
 split at hr
 case h_2=>cases hr
 rename_i x hx
 split at hr
 case h_2=>cases hr
 rename_i os hos
 cases hr
 have hsome: ∀(rs:List (RK U.C)) (rvs:List ResultVar) (us0:List Nat) (x:Ress U rs),e0e P σ us0 rs rvs=some x -> ∀rv∈rvs,∃a,e83 P σ rv=some a:=by
  intro rs
  induction rs with
  | nil=>intro rvs us0 x hd rv hrv;cases rvs with
    | nil=>cases hrv
    | cons _ _=>cases hd
  | cons r rs ih=>
    intro rvs us0 x hd rv hrv
    cases rvs with
    | nil=>cases hrv
    | cons rv0 rvs=>
      obtain ⟨x0,xs⟩:=x
      have hh:(∃a,e83 P σ rv0=some a) /\ ∃us',e0e P σ us' rs rvs=some xs:=by
       cases r<;>simp only [e0e] at hd<;>split at hd<;>try (cases hd;done)
       ·rename_i a ha;exact ⟨⟨a,ha⟩,_,(a2f hd).2⟩
       ·rename_i a ha
        split at hd
        ·exact ⟨⟨a,ha⟩,_,(a2f hd).2⟩
        ·cases hd
       ·rename_i a ha
        split at hd
        ·exact ⟨⟨a,ha⟩,_,(a2f hd).2⟩
        ·cases hd
       ·rename_i a ha
        split at hd
        ·exact ⟨⟨a,ha⟩,_,(a2f hd).2⟩
        ·cases hd
      rcases List.mem_cons.1 hrv with e | e
      ·rw [e];exact hh.1
      ·obtain ⟨us',hd'⟩:=hh.2;exact ih rvs us' xs hd' rv e
 obtain ⟨vals,hrun,hvals⟩:=c6s (P:=P) (f:=c7h (Fr n ρ).tmps) (w:=w) (p:=fun r u=> ∀a,e83 P σ r=some a -> AVR (cx Z π σ w) a u) (l:=fn.results.toList) fun rv hrv=>by
  obtain ⟨a,ha⟩:=hsome _ _ _ _ hx rv hrv
  obtain ⟨u,hu,hau⟩:=e8k (n:=n) hU h (List.all_eq_true.1 hc rv hrv) ha
  exact ⟨u,hu,fun a' ha'=>by rw [ha] at ha';cases ha';exact hau⟩
 refine ⟨f9u vals,d6z hrun,?_⟩
 obtain ⟨fz,ow,g1,g2,g3,g4,g5,g6⟩:=c7r hU h s.rs _ _ x vals hx hvals
 have hpi: ∀(j:Nat) v,us[j]? =some v -> (0+j)∈ioI 0 s.ps -> π (0+j)=v:=fun j v hv hm=>by
  have:=(h.pin (0+j) (by have:=(d6h s.ps 0 (0+j)).1 hm;simpa using this.2)).2
  rw [this,Nat.zero_add]
  show us.getD j undef=v
  simp [hv]
 obtain ⟨o1,o2⟩:=b1j hU h s.ps 0 os us hos hlen hpi
 have hnfz: ∀b,∀id,MB (σ.mem id) (π id) b -> (∀q∈fz,q.1≠id) -> ¬(Z b \/ b4i σ π fz b):=by
  rintro b id hb hq (hz | ⟨q,hqm,hqb⟩)
  ·exact (h.own id b hb).1 hz
  ·exact h.dist q.1 id b (hq q hqm) hqb hb
 have hmk: ∀(i:Nat) t c m,s.ps[i]? =some (.im t c m) -> ∀q∈m,∃j,e2j σ (0+i) q.1=some j /\ (czO (fun b=>Z b \/ b4i σ π fz b) s.ps (b2h σ π s.ps us) w).us q.2 /\ (czO (fun b=>Z b \/ b4i σ π fz b) s.ps (b2h σ π s.ps us) w).π q.2=π j:=by
  intro i t c m hp q hq
  obtain ⟨e,c',hx⟩:=d91 s.ps 0 hmi i t c m q hp hq
  obtain ⟨j,hj⟩:=e77 s.ps 0 os hos q.2 (0+i) q.1 e c' hx
  refine ⟨j,hj,⟨_,hx,rfl⟩,?_⟩
  have h9:=d3z σ π s.ps us q.2 (0+i) q.1 j e c' hx (by rw [hlen];exact (List.getElem?_eq_some_iff.1 hx).1) hj
  show (b2h σ π s.ps us).getD q.2 undef=π j
  simp [List.getD_eq_getElem?_getD,h9]
 have o1':=o1 (czO (fun b=>Z b \/ b4i σ π fz b) s.ps (b2h σ π s.ps us) w) (fun b hb=> .inl hb) rfl hmk
 have hsame:=c8o σ π s.ps us
 have hlen':=c9o σ π s.ps us
 generalize b2h σ π s.ps us=ua at o1' o2 hsame hlen'
 have hnd2: ∀(l:List Nat),c5b l=true -> ∀(i j a:Nat),i≠j -> l[i]? =some a -> l[j]? ≠some a:=by
  intro l
  induction l with
  | nil=>intro _ i j a _ h;simp at h
  | cons q l ih=>
    intro hn i j a hne hi hj
    obtain ⟨n1,n2⟩:=a9i hn
    cases i with
    | zero=>cases j with
      | zero=>exact hne rfl
      | succ j=>simp at hi hj;rw [<- hi] at hj;exact n1 (List.mem_of_getElem? hj)
    | succ i=>cases j with
      | zero=>simp at hi hj;rw [<- hj] at hi;exact n1 (List.mem_of_getElem? hi)
      | succ j=>exact ih n2 i j a (by omega) (by simpa using hi) (by simpa using hj)
 have hall: ∃ids:List (Option Nat),p9 (g40 σ π) ids (c48 s.rs vals++ioB s.ps ua) /\ (∀id,some id∈ids -> ∀q∈fz,q.1≠id) /\ ∀(i j:Nat) id,i≠j -> ids[i]? =some (some id) -> ids[j]? ≠some (some id):=by
  refine ⟨ow++(ioP σ 0 s.ps).map some,a6q g3 ?_,fun id hid=> ?_,fun i j id hne hi hj=> ?_⟩
  ·have key: ∀(l:List Nat) (vs:List Value),p9 (fun id v=>v=π id /\ ∀b,hdV v=some b -> MB (σ.mem id) (π id) b) l vs -> p9 (g40 σ π) (l.map some) vs:=by
    intro l
    induction l with
    | nil=>intro vs hv;cases vs with
      | nil=>trivial
      | cons _ _=>exact hv.elim
    | cons i l ih=>intro vs hv;cases vs with
      | nil=>exact hv.elim
      | cons v vs=>exact ⟨hv.1,ih vs hv.2⟩
   exact key _ _ o2
  ·rcases List.mem_append.1 hid with h1 | h1
   ·exact (g4 id h1).2
   ·obtain ⟨i,hi,he⟩:=List.mem_map.1 h1
    cases he
    intro q hq e
    exact g2 q hq (by rw [e];exact hi)
  ·have cross: ∀(a b:Nat),ow[a]? =some (some id) -> (ioP σ 0 s.ps)[b]? =some id -> False:=by
    intro a b ha hb
    exact (g4 id (List.mem_of_getElem? ha)).1 (List.mem_of_getElem? hb)
   have unmap: ∀(b:Nat),((ioP σ 0 s.ps).map some)[b]? =some (some id) -> (ioP σ 0 s.ps)[b]? =some id:=by
    intro b hb
    rw [List.getElem?_map] at hb
    cases hx:(ioP σ 0 s.ps)[b]? with
    | none=>rw [hx] at hb;cases hb
    | some q=>rw [hx] at hb;simp at hb;rw [hb]
   rcases s9 hi with ⟨_,hi⟩ | ⟨hi0,hi⟩<;>rcases s9 hj with ⟨_,hj⟩ | ⟨hj0,hj⟩
   ·exact g5 i j id hne hi hj
   ·exact cross _ _ hi (unmap _ hj)
   ·exact cross _ _ hj (unmap _ hi)
   ·exact hnd2 _ hnd _ _ id (by omega) (unmap _ hi) (unmap _ hj)
 obtain ⟨ids,i1,i2,i3⟩:=hall
 refine ⟨fun b=>Z b \/ b4i σ π fz b,vals,ua,rfl,fun b hb=> .inl (h.zout b hb),fun b hb=> ?_,h.ext,hlen',hsame,g6 _ (fun b hb=> .inl hb) (fun b hb=> .inr hb),o1',fun v hv b hb=> ?_,fun i j v v' b hne hi hj hb hb'=> ?_⟩
 ·rcases hb with hb | ⟨q,hq,hb⟩
  ·rcases h.zin b hb with h1 | h1 | h1
   ·exact .inl h1
   ·exact .inr (.inl h1)
   ·exact .inr (.inr ⟨h1,h.zlt b hb⟩)
  ·obtain ⟨_,h2,h3⟩:=h.own q.1 b hb
   rcases h3 with h3 | h3
   ·exact .inr (.inl h3)
   ·exact .inr (.inr ⟨h3,h2⟩)
 ·obtain ⟨k,hk⟩:=List.getElem?_of_mem hv
  obtain ⟨o,ho,hown⟩:=i1.getR hk
  cases o with
  | none=>have hown:hdV v=none:=hown;rw [hown] at hb;cases hb
  | some id=>
    obtain ⟨e1,e2⟩:=hown
    have hMB:=e2 b hb
    obtain ⟨_,h2,h3⟩:=h.own id b hMB
    exact ⟨hnfz b id hMB (i2 id (List.mem_of_getElem? ho)),h2,h3⟩
 ·obtain ⟨o,ho,hown⟩:=i1.getR hi
  obtain ⟨o',ho',hown'⟩:=i1.getR hj
  cases o with
  | none=>have hown:hdV v=none:=hown;rw [hown] at hb;cases hb
  | some id=>cases o' with
    | none=>have hown':hdV v'=none:=hown';rw [hown'] at hb';cases hb'
    | some id'=>
      have hne':id≠id':=fun e=>i3 i j id hne ho (by rw [e];exact ho')
      exact h.dist id id' b hne' (hown.2 b hb) (hown'.2 b hb')
theorem d9l (hU:UOK U) {s:Sig U} {w0:World} {G Z0:Nat -> Prop} {us:List Value} (hlen:us.length=s.ps.length) (hmi:c2t s.ps 0 s.ps=true) {Z:Nat -> Prop} {π:Nat -> Value} {σ:U.St} {ρ:Nat -> Value} {w:World} (h:Rel ⟨w0,G,Z0,c53 s.ps,d0a us⟩ Z π σ ρ w) {fn:Func} (hc:c7n n fn.results.toList=true) {r:Ress U s.rs×Outs U s.ps} (hr:g3f P s fn.results.toList σ=some r):
  ∃v,(results fn (Fr n ρ).tmps).run P w= .ok v w /\ Post s Z0 G w0 us r v w:=e5k hU hlen hmi (h.freeze (c6m fn.results.toList)) hc hr
theorem f6r (hU:UOK U) (hΦ:OKΦ P Φ) (hm:P.follows .mixedOrders=true) {f:FuncId} {fn:Func} {c:Code} {fe:Fent U} (un:Ress U fe.s.rs×Outs U fe.s.ps -> fe.B) (an:Ann U.C) (hf:P.funcs[f]? =some fn) (hb:fn.body=some c)
  (hc:(a9k fn.ntmps c&&c7n fn.ntmps fn.results.toList&&(decide (npK fe.s.ps <= fn.ntmps)&&b73 fe.s.ps))=true) (hun: ∀p,fe.wr (un p)=p) (hF: ∀x b,fe.F x=some b -> c9q P Φ fe.s un fn an x=some b):Spec P f fe:=by
 intro xs b hr Z G w us hlen hR
 simp only [Bool.and_eq_true,decide_eq_true_eq] at hc
 have hmi:c2t fe.s.ps 0 fe.s.ps=true:=by
  have h9:=hc.2.2
  unfold b73 at h9
  simp only [Bool.and_eq_true] at h9
  exact h9.1
 have hd:=hF xs b hr
 unfold c9q at hd
 rw [hb] at hd
 have hret: ∀{σ:U.St},unK un (g3f P fe.s fn.results.toList σ)=some b -> g3f P fe.s fn.results.toList σ=some (fe.wr b):=fun {σ} h=>by
  unfold unK at h
  split at h
  ·rename_i p hp
   cases h
   rw [hp,hun]
  ·cases h
 refine (Calls.of_WP (R:=fun u w'=>Post fe.s Z G w us (fe.wr b) u w') hf hb rfl (by rw [List.length_take];exact Nat.le_trans (Nat.min_le_left _ _) hc.2.1) ?_)
 refine b0b hU hΦ hm c an _ _ b hc.1.1 hd ⟨w,G,Z,c53 fe.s.ps,d0a us⟩ (fun i=> ?_) (fun _=>False) (d0a (us.take (npK fe.s.ps))) _ (fun _ h=>h.elim) ⟨fun σ Z' π ρ w' _ hR' h'=> ?_,(fun i σ Z' π ρ w' _ hR' h'=>by cases h'),fun σ Z' π ρ w' _ hR' h'=> ?_⟩ Z _ _ w (fun _ h=>h.elim) hR
 ·have:=d6h fe.s.ps 0 i
  simp only [Nat.zero_le,true_and,Nat.sub_zero] at this
  exact this.symm
 ·exact d9l hU hlen hmi hR' hc.1.2 (hret h')
 ·exact d9l hU hlen hmi hR' hc.1.2 (hret h')
end
end Go.SX
namespace Go.SX
open Go Go.PL
section
variable {C:Type} {T:C -> Type}
def gI (k:IntKind):AV C T -> Option Int
 | .int k' n=>match decEq k' k with | .isTrue _=>some n | .isFalse _=>none
 | _=>none
def gN:AV C T -> Option Unit | .nilp=>some () | _=>none
def gB:AV C T -> Option Bool | .bool b=>some b | _=>none
def gS:AV C T -> Option ByteArray | .str s=>some s | _=>none
def gV (dec:DecidableEq C) (c:C):AV C T -> Option (T c)
 | .val c' x=>match dec c' c with | .isTrue h=>some (h▸x) | .isFalse _=>none
 | _=>none
def gP (dec:DecidableEq C) (c:C):AV C T -> Option (T c)
 | .rp (.val c' x)=>match dec c' c with | .isTrue h=>some (h▸x) | .isFalse _=>none
 | _=>none
def gL (dec:DecidableEq C) (c:C):AV C T -> Option (List (T c))
 | .nils=>some []
 | .list c' l=>match dec c' c with | .isTrue h=>some (h▸l) | .isFalse _=>none
 | _=>none
end
def mkS {α β γ:Type} (g:α -> Option β) (k:β -> List α -> Option γ):List α -> Option γ
 | []=>none
 | a::r=>Option.bind (g a) fun x=>k x r
def mkE {α γ:Type} (z:γ):List α -> Option γ
 | []=>some z
 | _::_=>none
section
variable {U:Uni}
theorem g5u {α β:Type} {o:Option α} {f:α -> Option β} {y:β} (h:Option.bind o f=some y): ∃x,o=some x /\ f x=some y:=by
 cases o with
 | none=>cases h
 | some x=>exact ⟨x,rfl,h⟩
theorem c7 {α β γ:Type} {g:α -> Option β} {k:β -> List α -> Option γ} {as:List α} {y:γ} (h:mkS g k as=some y): ∃a r x,as=a::r /\ g a=some x /\ k x r=some y:=by
 cases as with
 | nil=>cases h
 | cons a r=>obtain ⟨x,hx,h⟩:=g5u h;exact ⟨a,r,x,rfl,hx,h⟩
theorem a0a {α γ:Type} {z y:γ} {as:List α} (h:mkE z as=some y):as=[] /\ z=y:=by
 cases as with
 | nil=>cases h;exact ⟨rfl,rfl⟩
 | cons a r=>cases h
theorem m8 {k:IntKind} {a:U.AV} {n:Int} (h:gI k a=some n):AEq a (.int k n):=by
 unfold gI at h
 split at h
 ·split at h
  ·rename_i hk _;cases h;subst hk;exact .inl rfl
  ·cases h
 ·cases h
theorem g62 {a:U.AV} {b:Unit} (h:gN a=some b):AEq a .nilp:=by
 unfold gN at h
 split at h
 ·exact .inl rfl
 ·cases h
theorem c4o {a:U.AV} {b:Bool} (h:gB a=some b):AEq a (.bool b):=by
 unfold gB at h
 split at h
 ·cases h;exact .inl rfl
 ·cases h
theorem d1f {a:U.AV} {b:ByteArray} (h:gS a=some b):AEq a (.str b):=by
 unfold gS at h
 split at h
 ·cases h;exact .inl rfl
 ·cases h
theorem c0o {dec:DecidableEq U.C} {c:U.C} {a:U.AV} {x:U.T c} (h:gV dec c a=some x):AEq a (.val c x):=by
 unfold gV at h
 split at h
 ·split at h
  ·rename_i hk _;cases h;subst hk;exact .inl rfl
  ·cases h
 ·cases h
theorem g6d {dec:DecidableEq U.C} {c:U.C} {a:U.AV} {x:U.T c} (h:gP dec c a=some x):AEq a (.rp (.val c x)):=by
 unfold gP at h
 split at h
 ·split at h
  ·rename_i hk _;cases h;subst hk;exact .inl rfl
  ·cases h
 ·cases h
theorem b0t {dec:DecidableEq U.C} {c:U.C} {a:U.AV} {l:List (U.T c)} (h:gL dec c a=some l):AEq a (.list c l):=by
 unfold gL at h
 split at h
 ·cases h;exact .inr ⟨rfl,c,rfl⟩
 ·split at h
  ·rename_i hk _;cases h;subst hk;exact .inl rfl
  ·cases h
 ·cases h
end
structure Ar (n:Nat) (α:Type) where
 l:List α
 h:l.length=n
theorem e00 {α:Type} (l:List α) (i:Int) (y:α):(a1c l i y).length=l.length:=by
 unfold a1c;split<;>simp
def Ar.set {n:Nat} {α:Type} (x:Ar n α) (i:Int) (y:α):Ar n α:=⟨a1c x.l i y,by rw [e00];exact x.h⟩
def Ar.gt {n:Nat} {α:Type} (z:α) (x:Ar n α) (i:Int):α:=match c8 x.l i with | some y=>y | none=>z
theorem Ar.gt_ok {n:Nat} {α:Type} {z:α} {x:Ar n α} {i:Int} {y:α} (h:c8 x.l i=some y):Ar.gt z x i=y:=by unfold Ar.gt;rw [h]
def arZ {α:Type} (n:Nat) (y:α):Ar n α:=⟨List.replicate n y,by simp⟩
def g43 {α β:Type} (g:α -> Option β):List α -> Option (List β)
 | []=>some []
 | a::r=>match g a with
   | some x=>(match g43 g r with | some l=>some (x::l) | none=>none)
   | none=>none
def mkA {α β:Type} (g:α -> Option β) (n:Nat) (as:List α):Option (Ar n β):=match g43 g as with
 | some l=>(match Nat.decEq l.length n with | .isTrue h=>some ⟨l,h⟩ | .isFalse _=>none)
 | none=>none
section
variable {U:Uni}
theorem e5r {β:Type} {g:U.AV -> Option β} {f:β -> U.AV} (hg: ∀a x,g a=some x -> AEq a (f x)): ∀{as:List U.AV} {l:List β},g43 g as=some l -> p9 (AEq (U:=U)) as (l.map f)
 | [],l,h=>by cases h;trivial
 | a::as,l,h=>by
   simp only [g43] at h
   split at h
   ·rename_i x hx
    split at h
    ·rename_i l' hl
     cases h
     exact ⟨hg _ _ hx,e5r hg hl⟩
    ·cases h
   ·cases h
theorem d07 {β:Type} {g:U.AV -> Option β} {f:β -> U.AV} (hg: ∀a x,g a=some x -> AEq a (f x)) {n:Nat} {as:List U.AV} {y:Ar n β} (h:mkA g n as=some y):p9 (AEq (U:=U)) as (y.l.map f):=by
 unfold mkA at h
 split at h
 ·rename_i l hl
  split at h
  ·cases h;exact e5r hg hl
  ·cases h
 ·cases h
theorem c4k {n:Nat} {α:Type} (x:Ar n α) {f:α -> U.AV} {o:Option U.C} (h: ∀y,a0n (f y)=o):(x.l.map f).map a0n=List.replicate n o:=by
 obtain ⟨l,hl⟩:=x
 subst hl
 rw [List.map_map]
 show l.map (a0n∘f)=_
 induction l with
 | nil=>rfl
 | cons a l ih=>simp [List.replicate_succ,h,ih]
theorem b4t {n:Nat} {α:Type} (x:Ar n α) {f:α -> U.AV} {p:U.AV -> Bool} (h: ∀y,p (f y)=true):(x.l.map f).all p=true:=by
 rw [List.all_eq_true]
 intro a ha
 obtain ⟨b,_,rfl⟩:=List.mem_map.1 ha
 exact h b
theorem a79 (hU:UOK U) {P:Program} {Φ:Phi U} (hΦ:OKΦ P Φ) (hm:P.follows .mixedOrders=true) {f:FuncId} {fn:Func} {fe:Fent U} (hf:P.funcs[f]? =some fn) (un:Ress U fe.s.rs×Outs U fe.s.ps -> fe.B) (an:Ann U.C)
  (hb:fn.body=some (fn.body.getD .skip)) (hc:(a9k fn.ntmps (fn.body.getD .skip)&&c7n fn.ntmps fn.results.toList&&(decide (npK fe.s.ps <= fn.ntmps)&&b73 fe.s.ps))=true) (hun: ∀p,fe.wr (un p)=p) (hF: ∀x,c9q P Φ fe.s un fn an x=fe.F x):Spec P f fe:=
 f6r hU hΦ hm un an hf hb hc hun fun x b h=>(hF x).trans h
def g3y (P:Program):List (Nat×Fent U) -> Prop
 | []=>True
 | q::r=>c88 P q.1 q.2 /\ g3y P r
def f27:List (PK U.C) -> List U.AV -> Bool
 | .cl f _::ps,.clo f' _::as=>Nat.beq f f'&&f27 ps as
 | .cl _ _::_,_=>false
 | .bn f _::ps,.bnd f' _::as=>Nat.beq f f'&&f27 ps as
 | .bn _ _::_,_=>false
 | .km f _::ps,.clo f' _::as=>Nat.beq f f'&&f27 ps as
 | .km _ _::_,_=>false
 | .vl f _ _::ps,.clo f' _::as=>Nat.beq f f'&&f27 ps as
 | .vl _ _ _::_,_=>false
 | _::ps,_::as=>f27 ps as
 | _,_=>true
def lkF (t:Nat) (as:List U.AV):List (Nat×Fent U) -> Option (Fent U)
 | []=>none
 | (k,a)::r=>bif Nat.beq k t&&f27 a.s.ps as then some a else lkF t as r
theorem okl {P:Program}: ∀{L:List (Nat×Fent U)},g3y P L -> OKΦ P fun f as=>lkF f as L
 | [],_,f,as,fe,h=>by cases h
 | (i,a)::r,hL,f,as,fe,h=>by
   have h:(bif Nat.beq i f&&f27 a.s.ps as then some a else lkF f as r)=some fe:=h
   cases hb:Nat.beq i f&&f27 a.s.ps as with
   | true=>
     rw [hb] at h
     simp only [Bool.and_eq_true] at hb
     obtain rfl:=Nat.eq_of_beq_eq_true hb.1
     obtain rfl:=Option.some.inj h
     exact hL.1
   | false=>
     rw [hb] at h
     exact okl hL.2 f as fe h
theorem g28 (hU:UOK U) {P:Program} (hm:P.follows .mixedOrders=true) {f:FuncId} {fn:Func} {fe:Fent U} (L:List (Nat×Fent U)) (hL:g3y P L) (hf:P.funcs[f]? =some fn) (un:Ress U fe.s.rs×Outs U fe.s.ps -> fe.B) (an:Ann U.C)
  (hb:fn.body=some (fn.body.getD .skip)) (hc:(a9k fn.ntmps (fn.body.getD .skip)&&c7n fn.ntmps fn.results.toList&&(decide (npK fe.s.ps <= fn.ntmps)&&b73 fe.s.ps))=true) (hun: ∀p,fe.wr (un p)=p) (hF: ∀x,c9q P (fun f as=>lkF f as L) fe.s un fn an x=fe.F x):Spec P f fe:=
 a79 hU (okl hL) hm hf un an hb hc hun hF
end
end Go.SX
namespace Go.SX
open Go Go.PL
section
variable {P:Program} {U:Uni}
theorem c9j (hU:UOK U) {f:FuncId} {fe:Fent U} (hS:Spec P f fe) {xs:Args U fe.s.ps} {b:fe.B} (hF:fe.F xs=some b) {w:World} (ht:U.tab w /\ ∀b,U.tb b -> b<w.heap.size) {us:List Value} (hl:us.length=fe.s.ps.length) (hm:(b73 fe.s.ps&&Nat.beq (npK fe.s.ps) fe.s.ps.length)=true) (is:List (List Nat)) (his: ∀i∈is,i=[])
  (hA: ∀Z':Nat -> Prop,(∀b,b<w.heap.size -> Z' b) -> ARs (⟨[],[],0⟩:U.St) (fun _=>undef) (cz Z' w) us fe.s.ps us xs is):
  Calls P f us.toArray w fun e w'=> ∃vs Z',e= .returned (f9u vs) /\ Ext noG w w' /\ RRs (cz Z' w') fe.s.rs (fe.wr b).1 vs:=by
 have h0:Rel (⟨w,noG,fun b=>b<w.heap.size,fun _=>False,fun _=>undef⟩:Env) (fun b=>b<w.heap.size) (fun _=>undef) (⟨[],[],0⟩:U.St) (fun _=>undef) w:=
  ⟨fun _=>trivial,fun _=>trivial,fun _ _ h=>h.elim,fun _ _ _ _ h=>h.elim,fun _ h=>h,fun _ h=> .inl h,fun _ h=>h,Ext.refl _ _,fun _ h=>h.elim,ht.1,fun b hb=>⟨ht.2 b hb,fun h=>h.elim⟩⟩
 have hap:c5j (is++[([]:List (Nat×U.MC)).map (·.1)])=true:=by
  clear hA
  induction is with
  | nil=>rfl
  | cons i r ih=>
    obtain rfl:=his i (by simp)
    show (true&&c5j (r++[[]]))=true
    rw [Bool.true_and]
    exact ih fun i hi=>his i (List.mem_cons_of_mem _ hi)
 simp only [Bool.and_eq_true] at hm
 have htk:us.take (npK fe.s.ps)=us:=by rw [Nat.eq_of_beq_eq_true hm.2,<- hl,List.take_length]
 have h1:=e7s hU h0 (fz:=[]) (ps:=fe.s.ps) (us:=us) (xs:=xs) (is:=is) (ρc:=d0a us) (ρs:=d0a us) hm.1 (fun _ _=>rfl) (fun _ h=>by cases h) (fun Z' hz _=>hA Z' hz) hap (fun j v hv=>by simp [d0a,hv])
 have hS2:=hS xs b hF _ _ w us hl (by rw [htk];exact h1)
 rw [htk] at hS2
 refine hS2.mono fun e w' ⟨u,he,⟨Z',vs,ua,hu,_,_,hE,_,_,hR,_⟩⟩=>⟨vs,Z',by rw [he,hu],hE.mono fun b hb=> ?_,hR⟩
 obtain ⟨i,hi,id,hid,_⟩:=hb
 rw [his i hi] at hid
 cases hid
end
end Go.SX
namespace Go.PL
open Go
def f7f (s:ByteArray) (c:Int):Int:=match (List.range s.size).find? fun i=>s[i]! ==c.toNat.toUInt8 with | some i=>(i:Int) | none=> -1
theorem e86 {P:Program} {w:World} (s:ByteArray) (c:Int):(Extern.BytealgIndexByte.indexByte #[.string s,.int .u8 c]).run P w= .ok (.int .i64 (f7f s c)) w:=by
 change Sem.run P (do
  let b <- Extern.Bytes.bytesOf (.string s)
  let c' <- Extern.Bytes.asByte (.int .u8 c)
  match (List.range b.size).find? fun i=>b[i]! ==c' with
  | some i=>pure (goInt i)
  | none=>pure (goInt (-1))) w=_
 simp only [Extern.Bytes.bytesOf,Extern.Bytes.asByte,Sem.run_bind,Sem.run_pure,Result.andThen]
 unfold f7f
 split<;>simp_all [goInt,Sem.run_pure]
end Go.PL
namespace Go.SX
open Go Go.PL
section
variable {P:Program} {U:Uni}
theorem f5l {ps:List (PK U.C)} {c:U.C} {Z G:Nat -> Prop} {w:World} {us:List Value} {o:Outs U ps} {x:U.T c} {u:Value} (hx:a3f (cz Z w) (inj c x) u) (ho:OR (czO Z ps us w) ps o us) (hi:ioB ps us=[]):Post (⟨ps,[.v c]⟩:Sig U) Z G w us ((x,()),o) u w:=
 ⟨⟨Z,[u],us,rfl,fun _ h=>h,fun _ h=> .inl h,Ext.refl _ _,rfl,fun _ _ _ _=>rfl,⟨hx,trivial⟩,ho,(fun v hv=>by
   have hv:v∈([]:List Value)++ioB ps us:=hv
   rw [hi] at hv;cases hv),(fun i j v v' b _ hv=>by
   have hv:(([]:List Value)++ioB ps us)[i]? =some v:=hv
   rw [hi] at hv;cases hv)⟩⟩
theorem f0b {f:FuncId} {fn:Func} (hf:P.funcs[f]? =some fn) (h1:(fn.name== "runtime.NumGoroutine")=false) (h2:fn.body.isNone=true) (h3:Extern.findNext fn=none) (h4:Extern.find fn=some Extern.BytealgIndexByte.indexByte)
  {a b c:U.C} (fa:U.T a -> ByteArray) (fb:U.T b -> Int) (fc:Int -> U.T c) (ha: ∀x,(inj a x:U.AV)= .str (fa x)) (hb: ∀x,(inj b x:U.AV)= .int .u8 (fb x)) (hc: ∀n,(inj c (fc n):U.AV)= .int .i64 n):
  d7r P f (⟨⟨[.v a,.v b],[.v c]⟩,Int,fun x=>some (f7f (fa x.1) (fb x.2.1)),fun n=>((fc n,()),()),none⟩:Fent U):=by
 intro xs r hr Z G w us hl hR
 obtain rfl:=Option.some.inj hr
 match us,hl with
 | [u1,u2],_=>
   have s0:AVR _ (inj a xs.1) u1:=hR.slot 0
   have s1:AVR _ (inj b xs.2.1) u2:=hR.slot 1
   rw [ha] at s0
   rw [hb] at s1
   have s0:u1= .string (fa xs.1):=s0
   have s1:u2= .int .u8 (fb xs.2.1):=s1
   refine ⟨.int .i64 (f7f (fa xs.1) (fb xs.2.1)),w,?_,f5l (by rw [hc];rfl) trivial rfl⟩
   show (callFunc f #[u1,u2]).run P w=_
   rw [s0,s1,run_callFunc_extern hf h1 h2 h3 h4,e86];rfl
theorem e9x (hU:UOK U) {f:FuncId} {fn:Func} (hf:P.funcs[f]? =some fn) (h1:(fn.name== "runtime.NumGoroutine")=false) (h2:fn.body.isNone=true) (h3:Extern.findNext fn=none) (h4:Extern.find fn=some Extern.BytealgCompare.compare)
  {a c:U.C} (h8:U.b8 a=true) (fc:Int -> U.T c) (hc: ∀n,(inj c (fc n):U.AV)= .int .i64 n):
  d7r P f (⟨⟨[.ls a,.ls a],[.v c]⟩,Int,fun x=>some (g1h (x.1.map (U.t8 a)) (x.2.1.map (U.t8 a))),fun n=>((fc n,()),()),none⟩:Fent U):=by
 intro xs r hr Z G w us hl hR
 obtain rfl:=Option.some.inj hr
 match us,hl with
 | [u1,u2],_=>
   obtain ⟨G1,g1⟩:=c1z hU h8 (c0c (c:=a) (l:=xs.1) (hR.slot 0))
   obtain ⟨G2,g2⟩:=c1z hU h8 (c0c (c:=a) (l:=xs.2.1) (hR.slot 1))
   refine ⟨.int .i64 (g1h (xs.1.map (U.t8 a)) (xs.2.1.map (U.t8 a))),w,?_,f5l (by rw [hc];rfl) trivial rfl⟩
   show (callFunc f #[u1,u2]).run P w=_
   rw [run_callFunc_extern hf h1 h2 h3 h4]
   have hh:=d5v (P:=P) (w:=w) g1 g2
   rw [show (Extern.BytealgCompare.compare #[u1,u2]).run P w=_ from hh];rfl
end
end Go.SX
namespace Go.SX
open Go Go.PL
theorem knS {P:Program} {U:Uni} {f:FuncId} {fe:Fent U} (hk:fe.kc=none) (h:Spec P f fe /\ c08 P f):c88 P f fe:=by unfold c88;rw [hk];exact .inl h
theorem knX {P:Program} {U:Uni} {f:FuncId} {fe:Fent U} (hk:fe.kc=none) (h:d7r P f fe):c88 P f fe:=by unfold c88;rw [hk];exact .inr h
structure Kn (P:Program) (U:Uni) where
 f:Nat
 fe:Fent U
 ok:c88 P f fe
def Kn.e {P:Program} {U:Uni} (k:Kn P U):Nat×Fent U:=(k.f,k.fe)
theorem g4d {P:Program} {U:Uni}: ∀ks:List (Kn P U),g3y P (ks.map Kn.e)
 | []=>trivial
 | k::ks=>⟨k.ok,g4d ks⟩
theorem d7b {P:Program} {f:Nat} {fn:Func} (hf:P.funcs[f]? =some fn) (hb:fn.body.isSome=true) (hn:(!fn.name== "runtime.NumGoroutine")=true):c08 P f:=by
 intro args w
 have h1:(fn.name== "runtime.NumGoroutine")=false:=by simpa using hn
 have h2:fn.body.isNone=false:=by cases h:fn.body with
  | none=>rw [h] at hb;cases hb
  | some c=>rfl
 unfold callFunc
 change Sem.run P (match P.funcs[f]? with | none=>_ | some fn=>_) w=_
 rw [hf]
 simp only [h1,h2]
 rfl
def d04 (fn:Func) {U:Uni} (s:Sig U):Bool:=(fn.body.isSome&& !fn.name== "runtime.NumGoroutine")&&(a9k fn.ntmps (fn.body.getD .skip)&&c7n fn.ntmps fn.results.toList&&(decide (npK s.ps <= fn.ntmps)&&b73 s.ps))
theorem q8 {fn:Func} {U:Uni} {s:Sig U} (h:d04 fn s=true):fn.body=some (fn.body.getD .skip) /\ (a9k fn.ntmps (fn.body.getD .skip)&&c7n fn.ntmps fn.results.toList&&(decide (npK s.ps <= fn.ntmps)&&b73 s.ps))=true:=by
 unfold d04 at h
 rw [Bool.and_eq_true,Bool.and_eq_true] at h
 refine ⟨?_,h.2⟩
 cases hb:fn.body with
 | none=>rw [hb] at h;exact absurd h.1.1 (by simp)
 | some c=>rfl
theorem d4z {fn:Func} {U:Uni} {s:Sig U} (h:d04 fn s=true):fn.body.isSome=true /\ (!fn.name== "runtime.NumGoroutine")=true:=by
 unfold d04 at h
 rw [Bool.and_eq_true,Bool.and_eq_true] at h
 exact h.1
def kn {P:Program} {U:Uni} (hU:UOK U) (hm:P.follows .mixedOrders=true) (f:Nat) (fn:Func) (s:Sig U) {B:Type} (F:Args U s.ps -> Option B) (wr:B -> Ress U s.rs×Outs U s.ps) (un:Ress U s.rs×Outs U s.ps -> B) (an:Ann U.C) (ks:List (Kn P U))
    (hf:P.funcs[f]? =some fn) (hc:d04 fn s=true) (hun: ∀p,wr (un p)=p) (hF: ∀x,c9q P (fun g as=>lkF g as (ks.map Kn.e)) s un fn an x=F x):Kn P U:=
 ⟨f,⟨s,B,F,wr,none⟩,knS rfl ⟨g28 hU hm (fe:=⟨s,B,F,wr,none⟩) (ks.map Kn.e) (g4d ks) hf un an (q8 hc).1 (q8 hc).2 hun hF,d7b hf (d4z hc).1 (d4z hc).2⟩⟩
abbrev w1 {α:Type} (b:α):(α×Unit)×Unit:=((b,()),())
abbrev u1 {α:Type} (p:(α×Unit)×Unit):α:=p.1.1
abbrev w2 {α β:Type} (b:α×β):(α×β×Unit)×Unit:=((b.1,b.2,()),())
abbrev u2 {α β:Type} (p:(α×β×Unit)×Unit):α×β:=(p.1.1,p.1.2.1)
def sk {C:Type}:Nat -> Ann C -> Ann C
 | 0,a=>a
 | n+1,a=> .s .n (sk n a)
end Go.SX
namespace Go.PL
open Go Go.ChangeShapes Go.WideShapes Go.Deep
variable {H:Type} {enc:TypeId×Value -> H} {P:Program}
theorem f8f {w:World} {a:Addr} {v:Value} (h:w.cell? a=some v):a.block<w.heap.size:=by
 rcases Nat.lt_or_ge a.block w.heap.size with h1 | h1
 ·exact h1
 ·exfalso
  unfold World.cell? at h
  rw [Array.getElem?_eq_none h1] at h
  cases h
end Go.PL
namespace Go.SX
open Go Go.PL Go.ChangeShapes Go.WideShapes Go.Deep Go.RowKit
section
variable {P:Program} {U:Uni}
def RdQ (P:Program) (U:Uni) (t:TypeId) (c:U.C) (q:U.T c -> Prop):Prop:= ∀{H:Type} (enc:TypeId×Value -> H) (w:World) (base:Nat) (spare:Nat -> Bool) (held:Bool) (fuel:Nat) (cs:List Value) (r:DataW H×List MemPlace),DataW.trod enc P w base spare held fuel t cs=some r -> ∃x:U.T c,q x /\ (Rp c).rep noG w cs x
def RdT (P:Program) (U:Uni) (t:TypeId) (c:U.C):Prop:=RdQ P U t c fun _=>True
def RdA (P:Program) (U:Uni) (t:TypeId) (S:U.AV -> Prop):Prop:= ∀{H:Type} (enc:TypeId×Value -> H) (w:World) (base:Nat) (spare:Nat -> Bool) (held:Bool) (fuel:Nat) (cs:List Value) (r:DataW H×List MemPlace),DataW.trod enc P w base spare held fuel t cs=some r -> ∃a,S a /\ l6 Rp noG w a cs
def isI (k:IntKind) (a:U.AV):Prop:= ∃z,a= .int k z
def isB (a:U.AV):Prop:= ∃z,a= .bool z
def isL (c:U.C) (a:U.AV):Prop:= ∃l:List (U.T c),l.length <= 9223372036854775807 /\ a= .list c l
theorem RdA.int {t:TypeId} {k:IntKind} (ht:P.underlying t=some (.int k)):RdA P U t (isI k):=by
 intro H enc w base spare held fuel cs r h
 obtain ⟨n,rfl,rfl,hw⟩:=DataW.trod_int ht h
 exact ⟨.int k n,⟨n,rfl⟩,rfl⟩
theorem RdA.bool {t:TypeId} (ht:P.underlying t=some .bool):RdA P U t isB:=by
 intro H enc w base spare held fuel cs r h
 obtain ⟨b,rfl,rfl⟩:=DataW.trod_bool ht h
 exact ⟨.bool b,⟨b,rfl⟩,rfl⟩
instance (c:U.C):Inhabited (Option (U.T c)):=⟨none⟩
theorem f7u {α:Type} {R:TyR α} {G:Nat -> Prop} {w:World} {v:Value} {l:List α} (h:s5 R G w v l):l.length <= 9223372036854775807:=by
 obtain ⟨a,cap,_,h1,h2⟩:=h.shape
 simp only [maxLen] at h2;omega
theorem e8d {t e:TypeId} {c:U.C} (hI:RdT P U e c) (hC:P.cellsOf e=U.n c) (hpos:0<U.n c) (ht:P.underlying t=some (.slice e)) {H:Type} {enc:TypeId×Value -> H} {w:World} {base:Nat} {spare:Nat -> Bool} {held:Bool} {fuel:Nat} {cs:List Value} {r:DataW H×List MemPlace} (h:DataW.trod enc P w base spare held fuel t cs=some r):
  ∃(v:Value) (l:List (U.T c)),cs=[v] /\ s5 (Rp c) noG w v l:=by
 rcases open_slice ht h with ⟨h1,_⟩ | ⟨a',len,cap,m,n',D,Pl,h1,hb,hl,hm,hmm,hx,hi⟩
 ·exact ⟨_,[],h1,.inl ⟨rfl,rfl⟩⟩
 ·have hlm:len <= m:=by rw [hmm];split<;>omega
  obtain ⟨X,hX⟩:=choose_lt (α:=Option (U.T c)) (n:=len) (p:=fun i x=> ∃y cs',x=some y /\ w.cells? base (a'.add (i*U.n c)) (U.n c)=some cs' /\ (Rp c).rep noG w cs' y) (fun i hil=>by
   obtain ⟨cs',h1,h2⟩:=hi i (by omega)
   obtain ⟨x,_,hxe⟩:=hI _ _ _ _ _ _ _ _ h2
   rw [hC] at h1
   exact ⟨some x,x,cs',rfl,h1,hxe⟩)
  have key: ∀k,k <= len -> ∃l:List (U.T c),l.length=k /\ ∀i x,l[i]? =some x -> ∃cs',w.cells? base (a'.add (i*U.n c)) (U.n c)=some cs' /\ (Rp c).rep noG w cs' x:=by
   intro k
   induction k with
   | zero=>intro _;exact ⟨[],rfl,fun i x hx=>by simp at hx⟩
   | succ k ih=>
     intro hk
     obtain ⟨l,h2,h3⟩:=ih (by omega)
     obtain ⟨y,cs',_,h4,h5⟩:=hX k (by omega)
     refine ⟨l++[y],by simp [h2],fun i x hx=> ?_⟩
     by_cases hik:i<k
     ·rw [List.getElem?_append_left (by omega)] at hx;exact h3 i x hx
     ·rw [List.getElem?_append_right (by omega)] at hx
      have h0:i=k:=by
       have:=(List.getElem?_eq_some_iff.1 hx).1
       simp at this;omega
      subst h0
      rw [h2,Nat.sub_self] at hx
      simp at hx
      subst hx
      exact ⟨cs',h4,h5⟩
  obtain ⟨l,h2,h3⟩:=key len (Nat.le_refl _)
  refine ⟨_,l,h1,.inr ⟨a',cap,by rw [h2],by omega,hm,fun i x hx=> ?_⟩⟩
  obtain ⟨cs',h4,h5⟩:=h3 i x hx
  obtain ⟨hcl0,hcl,hcs⟩:=World.cells?_some h4
  have hln:cs'.length=U.n c:=(Rp c).len h5
  refine ⟨cs',h5,?_,fun h=>h,fun j v hj=> ?_⟩
  ·have h0:=hcs 0 hpos
   have:cs'[0]? =some (cs'[0]'(by omega)):=List.getElem?_eq_getElem _
   rw [this] at h0
   have:=f8f h0
   rwa [a44,a44] at this
  ·have hjn:j<U.n c:=by rw [<- hln];exact (List.getElem?_eq_some_iff.1 hj).1
   exact (hcs j hjn).trans hj
theorem RdA.slice {t e:TypeId} {c:U.C} (hI:RdT P U e c) (hC:P.cellsOf e=U.n c) (hpos:0<U.n c) (ht:P.underlying t=some (.slice e)):RdA P U t (isL c):=by
 intro H enc w base spare held fuel cs r h
 obtain ⟨v,l,h1,h2⟩:=e8d hI hC hpos ht h
 exact ⟨.list c l,⟨l,f7u h2,rfl⟩,v,h1,h2⟩
theorem RdT.one (hU:UOK U) {t:TypeId} {c:U.C} {S:U.AV -> Prop} (h:RdA P U t S) (hmk: ∀a,S a -> ∃x:U.T c,U.flds c x=[a]):RdT P U t c:=by
 intro H enc w base spare held fuel cs r hh
 obtain ⟨a,hS,hr⟩:=h enc w base spare held fuel cs r hh
 obtain ⟨x,hx⟩:=hmk a hS
 have:=c9y hU (c:=c) (x:=x) (css:=[cs]) (G:=noG) (w:=w) (by rw [hx];exact ⟨hr,trivial⟩)
 exact ⟨x,trivial,by simpa using this⟩
def szS (P:Program):List Field -> Nat
 | []=>0
 | f::fs=>P.cellsOf f.type+szS P fs
def g24 (P:Program):Nat -> List Field -> Bool
 | _,[]=>true
 | o,f::fs=>Nat.beq f.offset o&&g24 P (o+P.cellsOf f.type) fs
def RdL (P:Program) (U:Uni):List Field -> List (U.AV -> Prop) -> Prop
 | [],[]=>True
 | f::fs,S::Ss=>RdA P U f.type S /\ RdL P U fs Ss
 | _,_=>False
theorem RdQ.struct (hU:UOK U) {t:TypeId} {c:U.C} {q:U.T c -> Prop} {fs:Array Field} {Ss:List (U.AV -> Prop)} (ht:P.underlying t=some (.struct fs)) (ho:g24 P 0 fs.toList=true) (hsz:P.cellsOf t=szS P fs.toList)
  (hL:RdL P U fs.toList Ss) (hmk: ∀as,p9 (fun S a=>S a) Ss as -> ∃x:U.T c,q x /\ U.flds c x=as):RdQ P U t c q:=by
 intro H enc w base spare held fuel cs r h
 obtain ⟨xs,n,_,_,hl,hxl,hx⟩:=DataW.trod_struct ht h
 have key: ∀(l:List Field) (Ss:List (U.AV -> Prop)) (o:Nat),g24 P o l=true -> RdL P U l Ss -> o+szS P l=cs.length -> (∀f∈l,∃y,DataW.trod enc P w base spare held n f.type ((cs.drop f.offset).take (P.cellsOf f.type))=some y) ->
   ∃as css,p9 (fun S a=>S a) Ss as /\ p9 (l6 Rp noG w) as css /\ css.flatten=cs.drop o:=by
  intro l
  induction l with
  | nil=>
    intro Ss o _ hR hlen _
    cases Ss with
    | nil=>exact ⟨[],[],trivial,trivial,by simp only [szS] at hlen;simp;omega⟩
    | cons _ _=>exact hR.elim
  | cons f l ih=>
    intro Ss o ho hR hlen hy
    cases Ss with
    | nil=>exact hR.elim
    | cons S Ss=>
      simp only [g24,Bool.and_eq_true] at ho
      have hfo:=Nat.eq_of_beq_eq_true ho.1
      simp only [szS] at hlen
      obtain ⟨as,css,g1,g2,g3⟩:=ih Ss (o+P.cellsOf f.type) ho.2 hR.2 (by omega) fun f' hf'=>hy f' (List.mem_cons_of_mem _ hf')
      obtain ⟨y,hy1⟩:=hy f List.mem_cons_self
      obtain ⟨a,hS,hr⟩:=hR.1 enc w base spare held n _ _ hy1
      refine ⟨a::as,_::css,⟨hS,g1⟩,⟨hr,g2⟩,?_⟩
      rw [List.flatten_cons,g3,hfo,<- List.drop_drop,List.take_append_drop]
 obtain ⟨as,css,g1,g2,g3⟩:=key fs.toList Ss 0 ho hL (by rw [hl,hsz];omega) fun f hf=>by
  obtain ⟨i,hi,hfi⟩:=List.mem_iff_getElem.1 hf
  have hi':i<fs.size:=by simpa using hi
  have h1:=hx i f (by rw [Array.getElem?_eq_getElem hi'];simpa using hfi)
  rw [List.getElem?_eq_getElem (by omega)] at h1
  exact ⟨_,h1⟩
 obtain ⟨x,hq,hx⟩:=hmk as g1
 have h5:=c9y hU (c:=c) (x:=x) (css:=css) (G:=noG) (w:=w) (by rw [hx];exact g2)
 rw [g3] at h5
 exact ⟨x,hq,by simpa using h5⟩
theorem a0p {S:U.AV -> Prop} {Ss:List (U.AV -> Prop)} {zs:List U.AV} (h:p9 (fun S a=>S a) (S::Ss) zs): ∃a r,zs=a::r /\ S a /\ p9 (fun S a=>S a) Ss r:=by
 cases zs with
 | nil=>exact h.elim
 | cons a r=>exact ⟨a,r,rfl,h.1,h.2⟩
theorem d0z {zs:List U.AV} (h:p9 (fun S a=>S a) ([]:List (U.AV -> Prop)) zs):zs=[]:=by
 cases zs with
 | nil=>rfl
 | cons a r=>exact h.elim
def g00 (P:Program) (U:Uni):List TypeId -> List (U.AV -> Prop) -> Prop
 | [],[]=>True
 | t::ts,S::Ss=>RdA P U t S /\ g00 P U ts Ss
 | _,_=>False
theorem g00.to: ∀(fs:List Field) (Ss:List (U.AV -> Prop)),g00 P U (fs.map (·.type)) Ss -> RdL P U fs Ss
 | [],[],_=>trivial
 | _::fs,_::Ss,h=>⟨h.1,g00.to fs Ss h.2⟩
 | [],_::_,h=>h.elim
 | _::_,[],h=>h.elim
theorem RdQ.str (hU:UOK U) {t:TypeId} {c:U.C} {q:U.T c -> Prop} {fs:Array Field} {ts:List TypeId} {Ss:List (U.AV -> Prop)} (ht:P.underlying t=some (.struct fs)) (ho:g24 P 0 fs.toList=true) (hsz:P.cellsOf t=szS P fs.toList)
  (hts:fs.toList.map (·.type)=ts) (hL:g00 P U ts Ss) (hmk: ∀as,p9 (fun S a=>S a) Ss as -> ∃x:U.T c,q x /\ U.flds c x=as):RdQ P U t c q:=
 RdQ.struct hU ht ho hsz (g00.to _ _ (by rw [hts];exact hL)) hmk
def RdP (P:Program) (U:Uni) (t:TypeId) (p:PK U.C) (q:p.T U -> Prop):Prop:= ∀{H:Type} (enc:TypeId×Value -> H) (w:World) (b0:Nat) (spare:Nat -> Bool) (held:Bool) (v:Value) (d:DataW H) (pl:List MemPlace),Value.okWide P w .any b0 t v -> DataW.Trod enc P w 0 spare held t v d pl ->
 ∃x:p.T U,q x /\ ∀(σ:U.St) (π:Nat -> Value) (all:List Value) (Z':Nat -> Prop),(∀b,b<w.heap.size -> Z' b) -> AR σ π (cz Z' w) all p v x []
theorem g5z {c:U.C} {w:World} {cs:List Value} {x:U.T c} (h:(Rp c).rep noG w cs x) {Z':Nat -> Prop} (hz: ∀b,b<w.heap.size -> Z' b):(Rp c).rep (cz Z' w).G w cs x:=(Rp c).weaken h fun b hb hg=>hg (hz b hb)
theorem RdP.struct {t:TypeId} {c:U.C} {q:U.T c -> Prop} {fs:Array Field} (ht:P.underlying t=some (.struct fs)) (ha:U.ag c=true) (h:RdQ P U t c q):RdP P U t (.v c) q:=by
 intro H enc w b0 spare held v d pl ho ⟨fuel,hd⟩
 obtain ⟨cs,rfl,_⟩:=okWide_struct ht ho
 obtain ⟨x,hq,hx⟩:=h enc w 0 spare held fuel _ _ hd
 refine ⟨x,hq,fun σ π all Z' hz=>⟨rfl,?_⟩⟩
 unfold inj
 rw [ha]
 exact ⟨cs.toList,by simp,g5z hx hz⟩
theorem RdP.int {t:TypeId} {c:U.C} {k:IntKind} (ht:P.underlying t=some (.int k)) (hc: ∀z,∃x:U.T c,(inj c x:U.AV)= .int k z):RdP P U t (.v c) fun _=>True:=by
 intro H enc w b0 spare held v d pl ho hd
 obtain ⟨n,rfl,_⟩:=open_int ht ho hd
 obtain ⟨x,hx⟩:=hc n
 exact ⟨x,trivial,fun σ π all Z' hz=>⟨rfl,by rw [hx];rfl⟩⟩
def e2m (P:Program) (U:Uni):List TypeId -> (ps:List (PK U.C)) -> (Args U ps -> Prop) -> Prop
 | [],[],q=>q ()
 | t::ts,p::ps,q=> ∃(q1:p.T U -> Prop) (q2:Args U ps -> Prop),RdP P U t p q1 /\ e2m P U ts ps q2 /\ ∀x xs,q1 x -> q2 xs -> q (x,xs)
 | _,_,_=>False
theorem e2m.nil:e2m P U [] [] fun _=>True:=trivial
theorem e2m.cons {t:TypeId} {ts:List TypeId} {p:PK U.C} {ps:List (PK U.C)} {q1:p.T U -> Prop} {q2:Args U ps -> Prop} (h1:RdP P U t p q1) (h2:e2m P U ts ps q2):e2m P U (t::ts) (p::ps) fun x=>q1 x.1 /\ q2 x.2:=⟨q1,q2,h1,h2,fun _ _ a b=>⟨a,b⟩⟩
theorem e3y {H:Type} (enc:TypeId×Value -> H) (w:World) (b0:Nat) (spare:Nat -> Bool) (held:Bool): ∀{ts:List TypeId} {ps:List (PK U.C)} {vs:List Value} {ds:List (DataW H)} {pl:List MemPlace} {q:Args U ps -> Prop},e2m P U ts ps q -> DataW.TrodAll enc P w 0 spare held ts vs ds pl ->
  (∀(j:Nat) t v,ts[j]? =some t -> vs[j]? =some v -> Value.okWide P w .any b0 t v) -> vs.length=ps.length /\ ∃xs:Args U ps,q xs /\ ∀(σ:U.St) (π:Nat -> Value) (all:List Value) (Z':Nat -> Prop),(∀b,b<w.heap.size -> Z' b) -> ARs σ π (cz Z' w) all ps vs xs (ps.map fun _=>[])
 | [],[],vs,ds,pl,q,hq,h,_=>by
   obtain ⟨rfl,rfl,rfl⟩:=trodAll_nil h
   exact ⟨rfl,(),hq,fun _ _ _ _ _=>trivial⟩
 | t::ts,p::ps,vs,ds,pl,q,⟨q1,q2,hR1,hR2,hq⟩,h,ho=>by
   obtain ⟨v,vs',d,ds',p1,q1,rfl,rfl,rfl,h1,h2⟩:=trodAll_cons h
   obtain ⟨x,k1,hx⟩:=hR1 enc w b0 spare held v d p1 (ho 0 t v rfl rfl) h1
   obtain ⟨hl,xs,k2,hxs⟩:=e3y enc w b0 spare held hR2 h2 fun j t v ht hv=>ho (j+1) t v ht hv
   exact ⟨by simp [hl],(x,xs),hq x xs k1 k2,fun σ π all Z' hz=>⟨hx σ π all Z' hz,hxs σ π all Z' hz⟩⟩
 | [],_::_,_,_,_,_,hR,_,_=>hR.elim
 | _::_,[],_,_,_,_,hR,_,_=>hR.elim
theorem c3x {H:Type} {enc:TypeId×Value -> H} (hl:laidOutB P=true) {W W':World} {sp:Nat -> Bool}: ∀{ts:List TypeId} {vs:List Value} {ds:List (DataW H)} {pl:List MemPlace},(∀t∈ts,P.readableRec t=true /\ t<P.types.size) -> DataW.TrodAll enc P W 0 (fun _=>true) true ts vs ds pl ->
  (∀p∈pl,W.sameAt W' p) -> (∀p∈pl,sp p.block=true) -> DataW.TrodAll enc P W' 0 sp true ts vs ds pl
 | [],vs,ds,pl,_,h,_,_=>by
   obtain ⟨rfl,rfl,rfl⟩:=trodAll_nil h
   exact trodAll_mk0
 | t::ts,vs,ds,pl,hr,h,h1,h2=>by
   obtain ⟨v,vs',d,ds',p1,q1,rfl,rfl,rfl,g1,g2⟩:=trodAll_cons h
   exact trodAll_cons_mk (WideElems.Trod_stays hl (hr t List.mem_cons_self).1 (hr t List.mem_cons_self).2 g1 (fun p hp=>h1 p (List.mem_append_left _ hp)) fun p hp=>h2 p (List.mem_append_left _ hp))
    (c3x hl (fun t ht=>hr t (List.mem_cons_of_mem _ ht)) g2 (fun p hp=>h1 p (List.mem_append_right _ hp)) fun p hp=>h2 p (List.mem_append_right _ hp))
end
end Go.SX
namespace Go.RowKit
open Go Go.ChangeShapes Go.WideShapes
section
variable {H:Type} {enc:TypeId×Value -> H} {P:Program}
theorem d21 {f:Func} {s:ChangeSpec} {apart fresh handsOn again:Bool} {W W':World} {args:Array Value} {v:Value} {ds gs:List (DataW H)} {before pa pv:List MemPlace}
  (hW:DataW.Whole enc P f.params.toList s.vars apart W args.toList ds gs before)
  (hres: ∀(b:Nat) (sp:Nat -> Bool) (hd:Bool),DataW.TrodAll enc P W' b sp hd f.resultTypes.toList (v.resultList f.resultTypes.size) (s.fn H (ds++gs)).results [])
  (hargs: ∀sp:Nat -> Bool,(∀p∈before,sp p.block=true) -> DataW.TrodAll enc P W' 0 sp true f.params.toList args.toList (s.fn H (ds++gs)).args pa)
  (hvars: ∀sp:Nat -> Bool,(∀p∈before,sp p.block=true) -> DataW.TrodVars enc P W' sp s.vars (s.fn H (ds++gs)).vars pv)
  (hps:before=pa++pv) (hb:Below W.heap.size W W')
  (hok: ∀(j:Nat) (t:TypeId) (r:Value),f.resultTypes[j]? =some t -> (v.resultList f.resultTypes.size)[j]? =some r -> Value.okWide P W' .any 0 t r):
  s.post enc P f apart fresh handsOn again W args v W':=by
 have hlt: ∀p∈before,p.block<W.heap.size:=fun p hp=>hW.lt p hp
 have hold: ∀p∈before,(fun b=>decide (b<W.heap.size)) p.block=true:=fun p hp=>by simpa using hlt p hp
 refine ⟨ds,gs,before,[],pa,pv,hW,hres _ _ _,hargs _ hold,hvars _ hold,World.keptBut_mono (fun p hp=>⟨hp,?_⟩) (hb.frame (· ∈before)),fun _=> ?_⟩
 ·rw [hps,List.mem_append] at hp
  exact Or.inr hp
 ·obtain ⟨_,_,_,_,_,hz,hn⟩:=hW
  refine ⟨hok,_,_,([]++pa)++pv,⟨[]++pa,pv,trodAll_append (hargs _ (fun _ _=>rfl)) (hres _ _ _),hvars _ (fun _ _=>rfl),rfl,?_,?_⟩,?_⟩
  ·intro b off hp
   have hin:MemPlace.cell b off∈before:=by rw [hps];simpa using hp
   rw [hb.frozen (hlt _ hin)]
   exact hz b off hin
  ·intro ha
   have:=hn ha
   rw [hps] at this
   simpa using this
  ·intro p hp _
   rw [hps]
   simpa using hp
end
end Go.RowKit
namespace Go.SX
open Go Go.PL Go.ChangeShapes Go.WideShapes Go.Deep Go.RowKit
section
variable {P:Program} {U:Uni}
theorem f07 (hU:UOK U) {f:FuncId} {fe:Fent U} (hS:Spec P f fe) {b:fe.B} {q:Args U fe.s.ps -> Prop} (hF: ∀xs,q xs -> fe.F xs=some b) (hres: ∀(X:Cx) vs,RRs X fe.s.rs (fe.wr b).1 vs -> vs=[.bool true])
  {fn:Func} (hPs:e2m P U fn.params.toList fe.s.ps q) (hm:(b73 fe.s.ps&&Nat.beq (npK fe.s.ps) fe.s.ps.length)=true) (hl:laidOutB P=true) (hr: ∀t∈fn.params.toList,P.readableRec t=true /\ t<P.types.size)
  {tb:TypeId} (hb:fn.resultTypes= #[tb]) (hub:P.underlying tb=some .bool) {s:ChangeSpec} (hsv:s.vars=[])
  {H:Type} (hfn: ∀ds:List (DataW H),ds.length=fe.s.ps.length -> (s.fn H ds).results=[.lit (.bool true)] /\ (s.fn H ds).args=ds /\ (s.fn H ds).vars=[])
  (enc:TypeId×Value -> H) (W:World) (base:Nat) (args:Array Value) (ds gs:List (DataW H)) (before:List MemPlace)
  (ht:U.tab W /\ ∀b,U.tb b -> b<W.heap.size)
  (hval: ∀(j:Nat) t v,fn.params[j]? =some t -> args[j]? =some v -> Value.okWide P W .any base t v)
  (hW:DataW.Whole enc P fn.params.toList s.vars false W args.toList ds gs before):
  Calls P f args W fun e W'=> ∃v,e= .returned v /\ s.post enc P fn false true false false W args v W':=by
 have hW':=hW
 have hlt:=hW.lt
 obtain ⟨p,pq,hA0,hV,rfl,hfz,hnd⟩:=hW
 have hA:DataW.TrodAll enc P W 0 (fun _=>true) true fn.params.toList args.toList ds p:=hA0
 rw [hsv] at hV
 obtain ⟨rfl,rfl⟩:=trodVars_none hV
 obtain ⟨hlen,xs,hq,hxs⟩:=e3y enc W base (fun _=>true) true hPs hA fun j t v ht hv=>hval j t v (by simpa using ht) (by simpa using hv)
 have hdl:ds.length=fe.s.ps.length:=by
  rw [<- hlen]
  clear hxs hlen hW' hV hfz hnd hlt hval hA0
  generalize fn.params.toList=ts at hA
  generalize args.toList=vs at hA
  induction ts generalizing vs ds p with
  | nil=>obtain ⟨rfl,rfl,_⟩:=trodAll_nil hA;rfl
  | cons t ts ih=>
    obtain ⟨v,vs',d,ds',p1,q1,rfl,rfl,rfl,g1,g2⟩:=trodAll_cons hA
    simp [ih _ _ _ g2]
 simp only [List.append_nil] at hW' hlt
 have hC:=c9j hU hS (hF xs hq) (w:=W) ht (us:=args.toList) hlen hm (fe.s.ps.map fun _=>[]) (fun i hi=>by simp at hi;exact hi.2.symm▸rfl) fun Z' hz=>hxs _ _ _ Z' hz
 rw [show args.toList.toArray=args by simp] at hC
 refine hC.mono fun e W' ⟨vs,Z',he,hE,hR⟩=> ?_
 have hv:=hres _ _ hR
 subst hv
 obtain ⟨f1,f2,f3⟩:=hfn ds hdl
 refine ⟨.bool true,he,d21 (pa:=p) (pv:=[]) hW' (fun b' sp hd=> ?_) (fun sp hsp=> ?_) (fun sp hsp=> ?_) (by simp) hE.below (ok_one hb rfl (okWide_bool_mk hub _))⟩
 ·rw [List.append_nil,f1,hb]
  exact trodAll_cons_mk (shut_bool hub _) trodAll_mk0
 ·rw [List.append_nil,f2]
  exact c3x hl hr hA (fun x hx=>hE.below.same (hlt x hx)) fun x hx=>hsp x hx
 ·rw [List.append_nil,f3,hsv]
  rfl
end
end Go.SX
