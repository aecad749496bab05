/- Texts of the proof, joined. -/
import Derived.Test.YtkjnadkobjakoaaGreatP1
import Derived.Great.FillDense
import Derived.Great.BuildSlice
import Derived.Laws.MakeOwn
import Derived.MapKept
set_option linter.unusedVariables false
set_option linter.unusedSimpArgs false
set_option maxRecDepth 100000
namespace Go.SX
open Go Go.PL
section
variable {P:Program} {U:Uni} {E:Env} {Z:Nat -> Prop} {π:Nat -> Value} {σ:U.St} {ρ:Nat -> Value} {w:World}
variable {d:Option Tmp} {ty:TypeId} {ps:String} {af:Array Edge} {g:Option (Nat×Bool)} {x y z:Operand} {m0 m:Nat} {a b v:U.AV} {ws:List (Nat×U.MC)} {fr:Nat}
def b52 (π:Nat -> Value) (fr:Nat) (v:Value):Nat -> Value:=fun id=>if id=fr then v else π id
theorem Rel.new (h:Rel E Z π σ ρ w) (hn:σ.mem fr= .never) {w':World} {mc:U.MC} {dead:List Nat} {v':Value} (hnn:mc≠ .never)
  (hE:Ext (fun b=> ∃id∈dead,MB (σ.mem id) (π id) b) w w')
  (hm: ∀X':Cx,(cx Z π σ w).Le X' -> X'.w=w' -> X'.Z=Z -> MR X' mc v')
  (hb: ∀b,MB mc v' b -> b<w'.heap.size /\ (w.heap.size <= b \/ ∃id∈dead,MB (σ.mem id) (π id) b)) (h1:v'.oneCell'=true) {d:Option Tmp}:
  Rel E Z (b52 π fr v') (σ.app d (.ref fr) ((fr,mc)::dead.map fun id=>(id,.dead))) (a9j ρ d v') w':=by
 have hlk: ∀id m,lk id ((fr,mc)::dead.map fun id=>(id,(.dead:U.MC)))=some m -> (id=fr /\ m=mc) \/ (id≠fr /\ id∈dead /\ m= .dead):=by
  intro id m hl
  have hl:(bif Nat.beq fr id then some mc else lk id (dead.map fun id=>(id,(.dead:U.MC))))=some m:=hl
  cases hk:Nat.beq fr id with
  | true=>rw [hk] at hl;cases hl;exact .inl ⟨(qC hk).symm,rfl⟩
  | false=>
    rw [hk] at hl
    have hmem:=a98 hl
    obtain ⟨i,hi,he⟩:=List.mem_map.1 hmem
    cases he
    exact .inr ⟨fun e=>Nat.ne_of_beq_eq_false hk e.symm,hi,rfl⟩
 have hlk2: ∀id,id∈dead -> ∃m,lk id ((fr,mc)::dead.map fun id=>(id,(.dead:U.MC)))=some m:=by
  intro id hid
  show∃m,(bif Nat.beq fr id then some mc else lk id (dead.map fun id=>(id,(.dead:U.MC))))=some m
  cases Nat.beq fr id with
  | true=>exact ⟨_,rfl⟩
  | false=>
    show∃m,lk id (dead.map fun id=>(id,(.dead:U.MC)))=some m
    induction dead with
    | nil=>cases hid
    | cons i r ih=>
      show∃m,(bif Nat.beq i id then some (.dead:U.MC) else lk id (r.map fun id=>(id,(.dead:U.MC))))=some m
      cases hk:Nat.beq i id with
      | true=>exact ⟨_,rfl⟩
      | false=>
        rcases qO.1 hid with e | e
        ·subst e;exact absurd rfl (Nat.ne_of_beq_eq_false hk)
        ·have hlk':lk id (r.map fun id=>(id,(.dead:U.MC)))≠none:=by
          clear ih hlk hb hE
          induction r with
          | nil=>cases e
          | cons j r ih2=>
            show (bif Nat.beq j id then some (.dead:U.MC) else lk id (r.map fun id=>(id,(.dead:U.MC))))≠none
            cases hk:Nat.beq j id with
            | true=>exact fun h=>by cases h
            | false=>
              rcases qO.1 e with e | e
              ·subst e;exact absurd rfl (Nat.ne_of_beq_eq_false hk)
              ·exact ih2 (qJ _ e) e
         cases hx:lk id (r.map fun id=>(id,(.dead:U.MC))) with
         | none=>exact absurd hx hlk'
         | some m=>exact ⟨m,rfl⟩
 have hle:(cx Z π σ w).Le (cx Z (b52 π fr v') (σ.app d (.ref fr) ((fr,mc)::dead.map fun id=>(id,.dead))) w'):=by
  refine ⟨fun _ hb=>hb,hE.mono fun b ⟨id,_,hb⟩ hz=>(h.own id b hb).1 hz,fun id hu=>⟨?_,?_⟩⟩
  ·show (σ.app d (.ref fr) _).mem id≠ .never
   rw [m5]
   cases hl:lk id ((fr,mc)::dead.map fun id=>(id,(.dead:U.MC))) with
   | none=>exact hu
   | some m=>
     rcases hlk id m hl with ⟨_,rfl⟩ | ⟨_,_,rfl⟩
     ·exact hnn
     ·intro h;cases h
  ·show (if id=fr then v' else π id)=π id
   rw [if_neg];intro e;subst e;exact hu hn
 refine h.next (hE.mono fun b ⟨id,hid,hb⟩=> ?_) (fun _ hb=>hb) (fun _ hb=> .inl hb) (fun id hu=> ?_) (fun id m hl=> ?_) (fun id m hl=> ?_) (fun id m b hl hb'=> ?_) (fun id id' m m' b hne hl hl' hb1 hb2=> ?_) ?_
 ·obtain ⟨m,hm⟩:=hlk2 id hid
  exact ⟨id,m,hm,hb⟩
 ·show (if id=fr then v' else π id)=π id
  rw [if_neg];intro e;subst e;exact hu hn
 ·rcases hlk id m hl with ⟨_,rfl⟩ | ⟨_,_,rfl⟩
  ·exact hnn
  ·intro h;cases h
 ·rcases hlk id m hl with ⟨rfl,rfl⟩ | ⟨_,_,rfl⟩
  ·rw [show b52 π id v' id=v' by simp [b52]]
   exact hm _ hle rfl rfl
  ·trivial
 ·rcases hlk id m hl with ⟨rfl,rfl⟩ | ⟨_,_,rfl⟩
  ·rw [show b52 π id v' id=v' by simp [b52]] at hb'
   obtain ⟨h2,h3⟩:=hb b hb'
   refine ⟨fun hz=> ?_,h2,?_⟩
   ·rcases h3 with h3 | ⟨i,_,h3⟩
    ·have:=h.zlt b hz;omega
    ·exact (h.own i b h3).1 hz
   ·rcases h3 with h3 | ⟨i,hi,h3⟩
    ·exact .inl h3
    ·obtain ⟨m',hm'⟩:=hlk2 i hi
     exact .inr ⟨i,m',hm',h3⟩
  ·exact hb'.elim
 ·rcases hlk id m hl with ⟨rfl,rfl⟩ | ⟨_,_,rfl⟩
  ·rcases hlk id' m' hl' with ⟨rfl,rfl⟩ | ⟨_,_,rfl⟩
   ·exact hne rfl
   ·exact hb2.elim
  ·exact hb1.elim
 ·refine ⟨?_,?_,h1⟩
  ·show (σ.app d (.ref fr) _).mem fr≠ .never
   rw [m5]
   have:lk fr ((fr,mc)::dead.map fun id=>(id,(.dead:U.MC)))=some mc:=by
    show (bif Nat.beq fr fr then some mc else _)=some mc
    rw [show Nat.beq fr fr=true from Nat.beq_refl fr];rfl
   rw [this];exact hnn
  ·show v'=b52 π fr v' fr
   simp [b52]
theorem a9a (h:Rel E Z π σ ρ w) {o:Oper} {obj:Obj} {mc:U.MC} {v':Value} (hn:σ.mem fr= .never) (hrun:(execOp (ev ρ) o).run P w= .ok (.value v') (w.alloc obj)) (hnn:mc≠ .never)
  (hv:hdV v'=some w.heap.size) (h1:v'.oneCell'=true) (hbm: ∀b,MB mc v' b -> hdV v'=some b)
  (hm: ∀X':Cx,(cx Z π σ w).Le X' -> X'.w=w.alloc obj -> X'.Z=Z -> MR X' mc v'):a39 P E σ ρ w o (.ref fr) [(fr,mc)]:=by
 unfold a39 y9
 rw [hrun]
 refine ⟨Z,b52 π fr v',?_⟩
 refine h.new (dead:=[]) hn hnn ((Ext.alloc _ w obj).mono fun _ hh=>hh) hm (fun b hb=> ?_) h1
 have:=hbm b hb
 rw [hv] at this
 cases this
 exact ⟨by simp,.inl (Nat.le_refl _)⟩
theorem c9f: ∀(fs:List Field) (as:List U.AV) (k:Nat),(b38 P k fs as).1.map u9=as.map u9 /\ (as.all u7=true -> (b38 P k fs as).1.all u7=true) /\ (∀q∈(b38 P k fs as).2,k <= q.1 /\ ∃e c,q.2=(.sl e c []:U.MC)) /\
  ∀(X X':Cx),X.Le X' -> (∀q∈(b38 P k fs as).2,X'.us q.1 /\ X'.π q.1= .slice none 0 0) -> ∀css,m7 (fun a s=> ∃u:Value,u.cells.toList=s /\ b37 X a u) as css -> m7 (fun a s=> ∃u:Value,u.cells.toList=s /\ b37 X' a u) (b38 P k fs as).1 css:=by
 have base: ∀(as:List U.AV) (k:Nat) (fs:List Field),b38 P k fs as=(as,[]) -> (b38 P k fs as).1.map u9=as.map u9 /\ (as.all u7=true -> (b38 P k fs as).1.all u7=true) /\ (∀q∈(b38 P k fs as).2,k <= q.1 /\ ∃e c,q.2=(.sl e c []:U.MC)) /\
   ∀(X X':Cx),X.Le X' -> (∀q∈(b38 P k fs as).2,X'.us q.1 /\ X'.π q.1= .slice none 0 0) -> ∀css,m7 (fun a s=> ∃u:Value,u.cells.toList=s /\ b37 X a u) as css -> m7 (fun a s=> ∃u:Value,u.cells.toList=s /\ b37 X' a u) (b38 P k fs as).1 css:=by
  intro as k fs e
  rw [e]
  exact ⟨rfl,fun h=>h,(fun q hq=>by cases hq),fun X X' hX _ css h=>h.mono fun _ _ ⟨u,hu,hh⟩=>⟨u,hu,hh.le hX⟩⟩
 intro fs
 induction fs with
 | nil=>intro as k;exact base as k [] (by cases as<;>rfl)
 | cons f fs ih=>
   intro as k
   cases as with
   | nil=>exact base [] k _ rfl
   | cons a as=>
     have skip:b38 P k (f::fs) (a::as)=(a::(b38 P k fs as).1,(b38 P k fs as).2) -> (b38 P k (f::fs) (a::as)).1.map u9=(a::as).map u9 /\ ((a::as).all u7=true -> (b38 P k (f::fs) (a::as)).1.all u7=true) /\ (∀q∈(b38 P k (f::fs) (a::as)).2,k <= q.1 /\ ∃e c,q.2=(.sl e c []:U.MC)) /\
       ∀(X X':Cx),X.Le X' -> (∀q∈(b38 P k (f::fs) (a::as)).2,X'.us q.1 /\ X'.π q.1= .slice none 0 0) -> ∀css,m7 (fun a s=> ∃u:Value,u.cells.toList=s /\ b37 X a u) (a::as) css -> m7 (fun a s=> ∃u:Value,u.cells.toList=s /\ b37 X' a u) (b38 P k (f::fs) (a::as)).1 css:=by
      intro e
      rw [e]
      obtain ⟨h1,h2,h3,h4⟩:=ih as k
      refine ⟨by simp [h1],fun hp=> ?_,h3,fun X X' hX hq css hh=> ?_⟩
      ·simp only [List.all_cons,qB] at hp⊢
       exact ⟨hp.1,h2 hp.2⟩
      ·cases css with
       | nil=>exact hh.elim
       | cons s css=>
         obtain ⟨u,hu,hr⟩:=hh.1
         exact ⟨⟨u,hu,hr.le hX⟩,h4 X X' hX hq css hh.2⟩
     cases a<;>try exact skip rfl
     have alt:b38 P k (f::fs) (.nils::as)=(.nils::(b38 P k fs as).1,(b38 P k fs as).2) \/ ∃e c,b38 P k (f::fs) ((.nils:U.AV)::as)=(.ref k::(b38 P (k+1) fs as).1,(k,.sl e c [])::(b38 P (k+1) fs as).2):=by
      simp only [b38]
      split
      ·split
       ·exact .inr ⟨_,_,rfl⟩
       ·exact .inl rfl
      ·exact .inl rfl
     rcases alt with e0 | ⟨e,c,e0⟩
     ·exact skip e0
     ·rw [e0]
      obtain ⟨h1,h2,h3,h4⟩:=ih as (k+1)
      refine ⟨by simp [h1,u9],fun hp=> ?_,fun q hq=> ?_,fun X X' hX hq css hh=> ?_⟩
      ·simp only [List.all_cons,qB] at hp⊢
       exact ⟨rfl,h2 hp.2⟩
      ·rcases qO.1 hq with e1 | e1
       ·rw [e1];exact ⟨Nat.le_refl _,e,c,rfl⟩
       ·obtain ⟨g1,g2⟩:=h3 q e1
        exact ⟨by omega,g2⟩
      ·cases css with
       | nil=>exact hh.elim
       | cons s css=>
         obtain ⟨u,hu,hr⟩:=hh.1
         obtain ⟨g1,g2⟩:=hq _ qI
         have hr:u= .slice none 0 0:=hr
         exact ⟨⟨u,hu,g1,hr.trans g2.symm,by rw [hr];rfl⟩,h4 X X' hX (fun q hq'=>hq q (qJ _ hq')) css hh.2⟩
theorem Rel.openB (h:Rel E Z π σ ρ w) {id:Nat} {t:TypeId} {c:U.C} {as:List U.AV} {k:Nat} {fs:List Field} (hm:σ.mem id= .box t (.st c as)) (hn: ∀q∈(b38 P k fs as).2,σ.mem q.1= .never):
  ∃π',Rel E Z π' (σ.app none .unk ((id,.box t (.st c (b38 P k fs as).1))::(b38 P k fs as).2)) ρ w:=by
 obtain ⟨h1,h2,h3,h4⟩:=c9f (P:=P) fs as k
 generalize b38 P k fs as=q at hn h1 h2 h3 h4
 obtain ⟨as',ms⟩:=q
 obtain ⟨π',hπ⟩: ∃π':Nat -> Value,π'=fun i=>if (lk i ms).isSome=true then .slice none 0 0 else π i:=⟨_,rfl⟩
 have hu: ∀i,b39 σ i -> π' i=π i:=fun i hi=>by
  rw [hπ]
  show (if _ then _ else _)=_
  rw [if_neg]
  intro hs
  obtain ⟨m,hl⟩:=Option.isSome_iff_exists.1 hs
  exact hi (hn _ (a98 hl))
 have hnil: ∀i m,lk i ms=some m -> π' i= .slice none 0 0:=fun i m hl=>by
  rw [hπ]
  show (if _ then _ else _)=_
  rw [if_pos (by rw [hl];rfl)]
 have hlk: ∀i m,lk i ((id,.box t (.st c as'))::ms)=some m -> (i=id /\ m= .box t (.st c as')) \/ (i≠id /\ lk i ms=some m):=by
  intro i m hl
  have hl:(bif Nat.beq id i then some (.box t (.st c as')) else lk i ms)=some m:=hl
  cases hk:Nat.beq id i with
  | true=>rw [hk] at hl;cases hl;exact .inl ⟨(qC hk).symm,rfl⟩
  | false=>rw [hk] at hl;exact .inr ⟨fun e=>Nat.ne_of_beq_eq_false hk e.symm,hl⟩
 have hid:lk id ((id,(.box t (.st c as'):U.MC))::ms)=some (.box t (.st c as')):=by
  show (bif Nat.beq id id then some (.box t (.st c as')) else lk id ms)=_
  rw [show Nat.beq id id=true from Nat.beq_refl id];rfl
 have hui:b39 σ id:=by unfold b39;rw [hm];intro h;cases h
 have hle:(cx Z π σ w).Le (cx Z π' (σ.app none .unk ((id,.box t (.st c as'))::ms)) w):=by
  refine ⟨fun _ h=>h,Ext.refl _ _,fun i hi=>⟨?_,hu i hi⟩⟩
  show (σ.app none .unk _).mem i≠ .never
  rw [m5]
  cases hl:lk i ((id,(.box t (.st c as'):U.MC))::ms) with
  | none=>exact hi
  | some m=>
    rcases hlk i m hl with ⟨_,rfl⟩ | ⟨_,hl2⟩
    ·intro h;cases h
    ·obtain ⟨_,e,c',he⟩:=h3 _ (a98 hl2)
     dsimp only at he;rw [he];intro h;cases h
 have hnew: ∀q∈ms,(cx Z π' (σ.app none .unk ((id,.box t (.st c as'))::ms)) w).us q.1 /\ (cx Z π' (σ.app none .unk ((id,.box t (.st c as'))::ms)) w).π q.1= .slice none 0 0:=by
  intro q hq
  have: ∃m,lk q.1 ms=some m:=d75 hq
  obtain ⟨m,hl⟩:=this
  refine ⟨?_,hnil _ m hl⟩
  show (σ.app none .unk _).mem q.1≠ .never
  rw [m5]
  have hne:q.1≠id:=fun e=>hui (by rw [<- e];exact hn q hq)
  have:lk q.1 ((id,(.box t (.st c as'):U.MC))::ms)=some m:=by
   show (bif Nat.beq id q.1 then some (.box t (.st c as')) else lk q.1 ms)=_
   cases hk:Nat.beq id q.1 with
   | true=>exact absurd (qC hk).symm hne
   | false=>exact hl
  rw [this]
  obtain ⟨_,e,c',he⟩:=h3 _ (a98 hl)
  dsimp only at he;rw [he];intro h;cases h
 refine ⟨π',h.next (d:=none) (v:=undef) (a:= .unk) (Ext.refl _ w) (fun b hb=>hb) (fun b hb=> .inl hb) hu (fun i m hl=> ?_) (fun i m hl=> ?_) (fun i m b hl hb=> ?_) (fun i i' m m' b hne hl hl' hb hb'=> ?_) trivial⟩
 ·rcases hlk i m hl with ⟨_,rfl⟩ | ⟨_,hl2⟩
  ·intro h;cases h
  ·obtain ⟨_,e,c',he⟩:=h3 _ (a98 hl2)
   dsimp only at he;rw [he];intro h;cases h
 ·rcases hlk i m hl with ⟨rfl,rfl⟩ | ⟨_,hl2⟩
  ·have hmm:=h.mem i
   rw [hm] at hmm
   obtain ⟨b,u,hv,hM,css,hu1,hlay,hp,hr⟩:=hmm
   refine ⟨b,u,by rw [hu i hui];exact hv,hM,css,hu1,by rw [h1];exact hlay,h2 hp,h4 _ _ hle hnew css hr⟩
  ·obtain ⟨_,e,c',he⟩:=h3 _ (a98 hl2)
   dsimp only at he
   rw [he,hnil i m hl2]
   exact ⟨[],Own.nil _ _ _ _ _,trivial⟩
 ·rcases hlk i m hl with ⟨rfl,rfl⟩ | ⟨_,hl2⟩
  ·rw [hu i hui] at hb
   have hb:MB (σ.mem i) (π i) b:=by rw [hm];exact hb
   obtain ⟨g1,g2,_⟩:=h.own i b hb
   exact ⟨g1,g2,.inr ⟨i,_,hid,hb⟩⟩
  ·obtain ⟨_,e,c',he⟩:=h3 _ (a98 hl2)
   dsimp only at he
   rw [he,hnil i m hl2] at hb
   cases hb
 ·have nm: ∀i m,lk i ms=some m -> ¬MB m (π' i) b:=fun i m hl2 hb=>by
   obtain ⟨_,e,c',he⟩:=h3 _ (a98 hl2)
   dsimp only at he
   rw [he,hnil i m hl2] at hb
   cases hb
  rcases hlk i m hl with ⟨e1,_⟩ | ⟨_,hl2⟩
  ·rcases hlk i' m' hl' with ⟨e2,_⟩ | ⟨_,hl2'⟩
   ·exact hne (e1.trans e2.symm)
   ·exact nm i' m' hl2' hb'
  ·exact nm i m hl2 hb
theorem c7k: ∀{l:List Nat} {q:U.Q} {m0 m:Nat} {v:U.AV} {ws:List (Nat×U.MC)},(f1p l q).Ev σ m0 m v ws -> (∀i∈l,σ.mem i= .never) /\ ∃m1,q.Ev σ m1 m v ws
 | [],q,m0,m,v,ws,h=>⟨(fun _ h=>by cases h),m0,h⟩
 | i::l,q,m0,m,v,ws,h=>by
   have h:(match σ.mem i with | .never=>f1p l q | _=>(.fail:U.Q)).Ev σ (m0 ||| 2^(2*i+1)) m v ws:=h
   split at h
   ·rename_i hn
    obtain ⟨h3,h4⟩:=c7k h
    refine ⟨fun j hj=> ?_,h4⟩
    rcases qO.1 hj with e | e
    ·rw [e];exact hn
    ·exact h3 j e
   ·exact h.elim
theorem b7k {o:Oper} {v0:U.AV} {ws0:List (Nat×U.MC)} {id:Nat} {t:TypeId} (hg:a39 P E σ ρ w o v0 ws0) (hid:(σ.app o.dst v0 ws0).mem id= .box t a) (hdis: ∀i,fr<i -> σ.mem i= .never -> lk i ws0=none) (hev:(b90 P fr t id a v0 ws0).Ev σ m0 m v ws):a39 P E σ ρ w o v ws:=by
 unfold b90 at hev
 split at hev
 ·obtain ⟨_,rfl,rfl⟩:=hev;exact hg
 ·rename_i a' mm ms ho
  obtain ⟨hn,m1,_,rfl,rfl⟩:=c7k hev
  unfold f2m at ho
  cases a<;>try (cases ho;done)
  rename_i c as
  dsimp only at ho
  split at ho
  ·rename_i fs hfs
   have ho:(AV.st c (b38 P (fr+1) fs.toList as).1,(b38 P (fr+1) fs.toList as).2)=(a',mm::ms):=ho
   simp only [Prod.mk.injEq] at ho
   obtain ⟨rfl,ho2⟩:=ho
   obtain ⟨_,_,h3,_⟩:=c9f (P:=P) (U:=U) fs.toList as (fr+1)
   refine y9.mono hg fun u w' ⟨Z',π',hR⟩=> ?_
   obtain ⟨π'',hR2⟩:=hR.openB (P:=P) (k:=fr+1) (fs:=fs.toList) hid fun q hq=>by
    rw [m5]
    have h5:=h3 q hq
    rw [ho2] at hq
    have h6:=hn q.1 (List.mem_map_of_mem hq)
    rw [hdis q.1 (by omega) h6];exact h6
   refine ⟨Z',π'',?_⟩
   rw [ho2] at hR2
   have e:((σ.app o.dst v ws0).app none .unk ((id,.box t (.st c (b38 P (fr+1) fs.toList as).1))::mm::ms))=σ.app o.dst v ((id,.box t (.st c (b38 P (fr+1) fs.toList as).1))::((mm::ms)++ws0)):=by
    cases hd:o.dst<;>simp [St.app,St.put]
   rw [e] at hR2
   exact hR2
  ·cases ho
theorem e0s {t:TypeId} (hev:(f3p P fr t a).Ev σ m0 m v ws):σ.mem fr= .never /\ ∃m1,(b90 P fr t fr a (.ref fr) [(fr,.box t a)]).Ev σ m1 m v ws:=by
 have hev:(match σ.mem fr with | .never=>b90 P fr t fr a (.ref fr) [(fr,.box t a)] | _=>(.fail:U.Q)).Ev σ _ m v ws:=hev
 split at hev
 ·rename_i hn
  exact ⟨hn,_,hev⟩
 ·exact hev.elim
theorem a45 {id i:Nat} {mc:U.MC} (h:i≠id):lk i [(id,mc)]=none:=by
 show (bif Nat.beq id i then some mc else none)=none
 cases hk:Nat.beq id i with
 | true=>exact absurd (qC hk).symm h
 | false=>rfl
theorem b31 {d:Option Tmp} {v:U.AV} {id:Nat} {mc:U.MC}:(σ.app d v [(id,mc)]).mem id=mc:=by
 rw [m5]
 have:lk id [(id,mc)]=some mc:=by
  show (bif Nat.beq id id then some mc else none)=_
  rw [show Nat.beq id id=true from Nat.beq_refl id];rfl
 rw [this]
theorem d2y {o:Oper} {t:TypeId} (hg:a39 P E σ ρ w o (.ref fr) [(fr,.box t a)]) (hev:(b90 P fr t fr a (.ref fr) [(fr,.box t a)]).Ev σ m0 m v ws):a39 P E σ ρ w o v ws:=
 b7k hg b31 (fun i hi _=>a45 (by omega)) hev
theorem e4g (h:Rel E Z π σ ρ w) {t:TypeId} (hx:AVR (cx Z π σ w) a (ev ρ x)) (hev:(match b0e P t a with | true=>f3p P fr t a | false=>(.fail:U.Q)).Ev σ m0 m v ws):
  a39 P E σ ρ w ⟨d,.box t x,ty,ps,af,g⟩ v ws:=by
 split at hev
 ·rename_i hf
  obtain ⟨hn,m1,hev⟩:=e0s hev
  unfold b0e at hf
  simp only [qB] at hf
  have hx1:=a6k (a96 hf.1.1) hx
  refine d2y (a9a h (obj:= .cells (ev ρ x).cells t) (v':= .pointer (some ⟨w.heap.size,0,none⟩)) hn (by simp [execOp,Instr.box,newVar,newRow]) (fun h=>by cases h) rfl rfl (fun b hb=>hb) ?_) hev
  rintro X' hle hw hZ
  refine ⟨w.heap.size,ev ρ x,rfl,?_,hx1.le hle⟩
  rw [hw]
  have:=Mb.alloc w t (ev ρ x).cells.toList
  simpa using this
 ·exact hev.elim
theorem d0p (hU:UOK U) {X:Cx} {gg:TypeId -> List Value -> Option U.AV} (hg: ∀t cs a,gg t cs=some a -> ∃u,u.cells.toList=cs /\ a18 X a u): ∀(fs:List Field) (cs:List Value) (as:List U.AV),e53 P gg fs cs=some as ->
  ∃css:List (List Value),css.flatten=cs /\ m7 (fun a s=> ∃u,u.cells.toList=s /\ a18 X a u) as css
 | [],[],as,h=>by cases h;exact ⟨[],rfl,trivial⟩
 | [],_::_,as,h=>by cases h
 | f::fs,cs,as,h=>by
   simp only [e53] at h
   split at h
   ·rename_i a ha
    split at h
    ·rename_i as' has
     cases h
     obtain ⟨css,h1,h2⟩:=d0p hU hg fs _ as' has
     obtain ⟨u,hu,hr⟩:=hg _ _ _ ha
     exact ⟨cs.take (szT P f.type)::css,by simp [h1],⟨u,hu,c2p hU hr⟩,h2⟩
    ·cases h
   ·cases h
theorem d6n {X:Cx} {v:Value} {a:U.AV} (h:b6v v=some a):a18 X a v /\ v.cells.toList=[v]:=by
 unfold b6v at h
 split at h<;>first
  | (cases h;exact ⟨rfl,rfl⟩)
  | cases h
theorem d36 (hU:UOK U) {X:Cx} {c:U.C} {as:List U.AV} {a:U.AV} (h:f6e c as=some a) {css:List (List Value)} (hr:m7 (fun a s=> ∃u:Value,u.cells.toList=s /\ a18 X a u) as css):a18 X a (.agg css.flatten.toArray):=by
 unfold f6e at h
 split at h
 ·rename_i x hk
  obtain ⟨h1,h2⟩:=e0v hU hk
  split at h
  ·cases h
   refine ⟨css,rfl,h2,h1,?_⟩
   rename_i hany
   clear hk h2 hany
   induction as generalizing css with
   | nil=>cases css with
     | nil=>trivial
     | cons _ _=>exact hr.elim
   | cons a as ih=>cases css with
     | nil=>exact hr.elim
     | cons s css=>
       simp only [List.all_cons,qB] at h1
       obtain ⟨u,hu,hh⟩:=hr.1
       exact ⟨⟨u,hu,hh.to0 h1.1⟩,ih hr.2 h1.2⟩
  ·cases h
   exact ⟨css.flatten,rfl,c60 hU hk hr⟩
 ·cases h
theorem c92 (hU:UOK U) {X:Cx} {gg:TypeId -> List Value -> Option U.AV} (hg: ∀t cs a,gg t cs=some a -> ∃u,u.cells.toList=cs /\ a18 X a u): ∀(m:Nat) (e:TypeId) (cs:List Value) (as:List U.AV),e40 P gg m e cs=some as ->
  ∃css:List (List Value),css.flatten=cs /\ m7 (fun a s=> ∃u,u.cells.toList=s /\ a18 X a u) as css
 | 0,e,[],as,h=>by cases h;exact ⟨[],rfl,trivial⟩
 | 0,e,_::_,as,h=>by cases h
 | m+1,e,cs,as,h=>by
   simp only [e40] at h
   split at h
   ·rename_i a ha
    split at h
    ·rename_i as' has
     cases h
     obtain ⟨css,h1,h2⟩:=c92 hU hg m e _ as' has
     obtain ⟨u,hu,hr⟩:=hg _ _ _ ha
     exact ⟨cs.take (szT P e)::css,by simp [h1],⟨u,hu,c2p hU hr⟩,h2⟩
    ·cases h
   ·cases h
theorem b53 (hU:UOK U) {X:Cx}: ∀(n:Nat) (t:TypeId) (cs:List Value) (a:U.AV),e1m P n t cs=some a -> ∃u,u.cells.toList=cs /\ a18 X a u
 | 0,_,_,_,h=>by cases h
 | n+1,t,cs,a,h=>by
   simp only [e1m] at h
   split at h
   ·rename_i fs _
    split at h
    ·rename_i c _
     split at h
     ·rename_i as has
      split at h
      ·obtain ⟨css,h1,h2⟩:=d0p hU (fun t cs a=>b53 hU n t cs a) _ _ _ has
       exact ⟨.agg cs.toArray,by simp [Value.cells],by rw [<- h1];exact d36 hU h h2⟩
      ·cases h
     ·cases h
    ·cases h
   ·rename_i m e _
    split at h
    ·rename_i c _
     split at h
     ·rename_i as has
      split at h
      ·rename_i yv hag hk
       cases h
       obtain ⟨css,h1,h2⟩:=c92 hU (fun t cs a=>b53 hU n t cs a) _ _ _ _ has
       exact ⟨.agg cs.toArray,by simp [Value.cells],cs,rfl,by rw [<- h1];exact c60 hU hk h2⟩
      ·cases h
     ·cases h
    ·cases h
   ·split at h
    ·obtain ⟨h1,h2⟩:=d6n (X:=X) h
     exact ⟨_,h2,h1⟩
    ·cases h
theorem d79 (hU:UOK U) (h:Rel E Z π σ ρ w) {t:TypeId} (hev:(match (b3o P t:Option U.AV) with | some a=>(match b0e P t a with | true=>f3p P fr t a | false=>(.fail:U.Q)) | none=> .fail).Ev σ m0 m v ws):
  a39 P E σ ρ w ⟨d,.alloc t,ty,ps,af,g⟩ v ws:=by
 split at hev
 case h_2=>exact hev.elim
 rename_i a ha
 split at hev
 case h_2=>exact hev.elim
 obtain ⟨hn,m1,hev⟩:=e0s hev
 unfold b3o at ha
 split at ha
 case h_2=>cases ha
 rename_i i hi
 split at ha
 case h_2=>cases ha
 rename_i zv hz
 refine d2y (a9a h (obj:= .cells zv.cells t) (v':= .pointer (some ⟨w.heap.size,0,none⟩)) hn ?_ (fun h=>by cases h) rfl rfl (fun b hb=>hb) ?_) hev
 ·simp [execOp,Instr.alloc,zeroValue,typeInfo,hi,hz,newVar,newRow]
 ·rintro X' hle hw hZ
  obtain ⟨u,hu,hr⟩:=b53 hU (X:=X') _ _ _ _ ha
  refine ⟨w.heap.size,u,rfl,?_,hr⟩
  rw [hw,hu]
  have:=Mb.alloc w t zv.cells.toList
  simpa using this
end
end Go.SX
namespace Go.SX
open Go Go.PL
section
variable {P:Program} {U:Uni} {E:Env} {Z:Nat -> Prop} {π:Nat -> Value} {σ:U.St} {ρ:Nat -> Value} {w:World}
variable {d:Option Tmp} {ty:TypeId} {ps:String} {af:Array Edge} {g:Option (Nat×Bool)} {x y z:Operand} {m0 m:Nat} {a b v:U.AV} {ws:List (Nat×U.MC)} {fr:Nat}
theorem c5v {id i:Nat} {mc m':U.MC} (h:lk i [(id,mc)]=some m'):i=id /\ m'=mc:=by
 have:=a98 h
 simp at this
 exact this
theorem b36 (id:Nat) (mc:U.MC):lk id [(id,mc)]=some mc:=by
 show (bif Nat.beq id id then some mc else none)=_
 rw [show Nat.beq id id=true from Nat.beq_refl id];rfl
theorem Rel.set (h:Rel E Z π σ ρ w) {id:Nat} {mc:U.MC} {w':World} {v':Value} (hu:b39 σ id) (hnn:mc≠ .never) (hE:Ext (fun b=>MB (σ.mem id) (π id) b) w w')
  (hm: ∀X':Cx,(cx Z π σ w).Le X' -> X'.w=w' -> MR X' mc (π id)) (hb: ∀b,MB mc (π id) b -> MB (σ.mem id) (π id) b) {d:Option Tmp} (ha: ∀X':Cx,(cx Z π σ w).Le X' -> AVR X' a v'):
  Rel E Z π (σ.app d a [(id,mc)]) (a9j ρ d v') w':=by
 have hle:(cx Z π σ w).Le (cx Z π (σ.app d a [(id,mc)]) w'):=by
  refine ⟨fun _ hb=>hb,hE.mono fun b hb hz=>(h.own id b hb).1 hz,fun i hi=>⟨?_,rfl⟩⟩
  show (σ.app d a [(id,mc)]).mem i≠ .never
  rw [m5]
  cases hl:lk i [(id,mc)] with
  | none=>exact hi
  | some m'=>obtain ⟨_,rfl⟩:=c5v hl;exact hnn
 refine h.next (hE.mono fun b hb=>⟨id,mc,b36 id mc,hb⟩) (fun _ hb=>hb) (fun _ hb=> .inl hb) (fun _ _=>rfl) (fun i m' hl=> ?_) (fun i m' hl=> ?_) (fun i m' b hl hb'=> ?_) (fun i i' m1 m2 b hne hl hl' _ _=> ?_) (ha _ hle)
 ·obtain ⟨_,rfl⟩:=c5v hl;exact hnn
 ·obtain ⟨rfl,rfl⟩:=c5v hl;exact hm _ hle rfl
 ·obtain ⟨rfl,rfl⟩:=c5v hl
  obtain ⟨h1,h2,h3⟩:=h.own i b (hb b hb')
  exact ⟨h1,Nat.lt_of_lt_of_le h2 hE.size,.inr ⟨i,_,b36 i _,hb b hb'⟩⟩
 ·obtain ⟨rfl,rfl⟩:=c5v hl
  obtain ⟨rfl,rfl⟩:=c5v hl'
  exact hne rfl
theorem e5t (hU:UOK U) {X:Cx} {c:U.C} {as:List U.AV} {css:List (List Value)} (hlay:as.map u9=U.lay c) (hp:as.all u7=true) (hr:m7 (fun a s=> ∃u:Value,u.cells.toList=s /\ b37 X a u) as css):(Value.agg css.flatten.toArray).cells.toList.length=U.n c:=by
 show css.flatten.toArray.toList.length=_
 rw [b4q,e71 hr hp,hlay,hU.sum]
theorem c33 {X:Cx} {u:Value} (hp:a8j a=true) (h:a18 X a u):(u7 a=true /\ b37 X a u) \/ ∃c as css,a= .st c as /\ u= .agg css.flatten.toArray /\ as.map u9=U.lay c /\ as.all u7=true /\ m7 (fun a s=> ∃u:Value,u.cells.toList=s /\ b37 X a u) as css:=by
 cases hs:a with
 | st c as=>
   subst hs
   obtain ⟨css,h1,h2,h3,h4⟩:=h
   exact .inr ⟨c,as,css,rfl,h1,h2,h3,h4⟩
 | _=>
   subst hs
   first
    | (cases hp;done)
    | exact .inl ⟨rfl,a18.to0 rfl h⟩
theorem d25 (hU:UOK U) {X:Cx} {u:Value} (hp:a8j a=true) (h:a18 X a u):u.cells.toList.length=asz a:=by
 rcases c33 hp h with ⟨h1,h2⟩ | ⟨c,as,css,rfl,rfl,hlay,hpp,hr⟩
 ·exact b81 h1 h2
 ·exact e5t hU hlay hpp hr
theorem d3b {X:Cx} {a:U.AV} {u:Value} (hp:u7 a=true) (h:b37 X a u): ∀q∈u.cells.toList,q.oneCell'=true:=by
 cases hv:a6c a with
 | true=>
   cases a<;>try (cases hv;done)
   case st=>exact h.elim
   obtain ⟨cs,hu,hr⟩:=h
   subst hu
   intro q hq
   exact e7y hr q (by simpa [Value.cells] using hq)
 | false=>
   have h1:u.oneCell'=true:=by
    cases a<;>first
     | (cases hp;done)
     | (cases hv;done)
     | (have h:u=_:=h;subst h;rfl)
     | exact c3j h
     | (obtain ⟨ad,cs,h,_⟩:=h;subst h;rfl)
     | (obtain ⟨_,_,h1⟩:=h;exact h1)
   rw [b5b h1]
   intro q hq
   simp at hq;subst hq;exact h1
theorem d2q {X:Cx} {u:Value} (hp:a8j a=true) (h:a18 X a u): ∀q∈u.cells.toList,q.oneCell'=true:=by
 rcases c33 hp h with ⟨h1,h2⟩ | ⟨c,as,css,rfl,rfl,hlay,hpp,hr⟩
 ·exact d3b h1 h2
 ·intro q hq
  have hq:q∈css.flatten:=by simpa [Value.cells] using hq
  clear hlay hp h
  induction as generalizing css with
  | nil=>cases css with
    | nil=>cases hq
    | cons _ _=>exact hr.elim
  | cons a as ih=>cases css with
    | nil=>exact hr.elim
    | cons s css=>
      simp only [List.all_cons,qB] at hpp
      rcases qK.1 (by simpa using hq:q∈s++css.flatten) with hq | hq
      ·obtain ⟨u,hu,h0⟩:=hr.1
       exact d3b hpp.1 h0 q (by rw [hu];exact hq)
      ·exact ih css hpp.2 hr.2 (by simp [Value.cells] at hq ⊢; exact hq) hq
theorem b5x {α β:Type} {p:α -> β -> Prop}: ∀{l:List α} {r:List β} (n:Nat) (a:α) (b:β),m7 p l r -> p a b -> m7 p (l.set n a) (r.set n b)
 | [],[],_,_,_,_,_=>trivial
 | _::_,_::_,0,_,_,h,hp=>⟨hp,h.2⟩
 | _::_,_::_,n+1,a,b,h,hp=>⟨h.1,b5x n a b h.2 hp⟩
 | [],_::_,_,_,_,h,_=>h.elim
 | _::_,[],_,_,_,h,_=>h.elim
theorem b10: ∀(css:List (List Value)) (n:Nat) (s t:List Value),css[n]? =some s -> t.length=s.length ->
  (css.set n t).flatten=css.flatten.take ((css.take n).flatten.length)++t++css.flatten.drop ((css.take n).flatten.length+t.length)
 | [],n,s,t,h,_=>by simp at h
 | c::css,0,s,t,h,hl=>by
   simp at h;subst h
   simp [hl]
 | c::css,n+1,s,t,h,hl=>by
   have ih:=b10 css n s t (by simpa using h) hl
   simp only [List.set_cons_succ,List.flatten_cons,List.take_succ_cons,qL,ih]
   rw [List.take_length_add_append,Nat.add_assoc,List.drop_length_add_append]
   simp only [List.append_assoc]
theorem d1d {cs:List Value} {o k o':Nat} {t:List Value} (h1:o+k <= cs.length) (h2:o'+t.length <= k):
  cs.take o++(((cs.drop o).take k).take o'++t++((cs.drop o).take k).drop (o'+t.length))++cs.drop (o+k)=cs.take (o+o')++t++cs.drop (o+o'+t.length):=by
 have e1:((cs.drop o).take k).take o'=(cs.drop o).take o':=by rw [List.take_take,Nat.min_eq_left (by omega)]
 have e2:((cs.drop o).take k).drop (o'+t.length)++cs.drop (o+k)=cs.drop (o+o'+t.length):=by
  rw [List.drop_take,List.drop_drop]
  have:cs.drop (o+k)=(cs.drop (o+(o'+t.length))).drop (k-(o'+t.length)):=by rw [List.drop_drop];congr 1;omega
  rw [this,List.take_append_drop,Nat.add_assoc]
 rw [e1,List.take_add]
 simp only [List.append_assoc]
 rw [e2]
theorem d3r: ∀(css:List (List Value)) (n:Nat) (s:List Value),css[n]? =some s -> (css.flatten.drop ((css.take n).flatten.length)).take s.length=s /\ (css.take n).flatten.length+s.length <= css.flatten.length
 | [],n,s,h=>by simp at h
 | c::css,0,s,h=>by
   simp at h;subst h
   simp
 | c::css,n+1,s,h=>by
   obtain ⟨h1,h2⟩:=d3r css n s (by simpa using h)
   simp only [List.take_succ_cons,List.flatten_cons,qL]
   refine ⟨?_,by omega⟩
   rw [List.drop_length_add_append]
   exact h1
def FV (X:Cx) (a:U.AV) (s:List Value):Prop:=s.length=asz a /\ ∃u:Value,u.cells.toList=s /\ a18 X a u
theorem f2u {X:Cx} {as:List U.AV} {css:List (List Value)} (h:m7 (FV X) as css) (n:Nat):(css.take n).flatten.length=(((as.map u9).take n).map osz).sum:=by
 induction as generalizing css n with
 | nil=>cases css with
   | nil=>simp
   | cons _ _=>exact h.elim
 | cons a as ih=>cases css with
   | nil=>exact h.elim
   | cons c css=>cases n with
     | zero=>simp
     | succ n=>
       simp only [List.take_succ_cons,List.flatten_cons,qL,List.map_cons,List.sum_cons,ih h.2 n,a8m,h.1.1]
theorem e4s {X:Cx} {c:U.C} {as:List U.AV} {css:List (List Value)} {n:Nat} {b1 b1':U.AV} {o':Nat} {t:List Value} (hall:m7 (FV X) as css) (hlay:as.map u9=U.lay c) (hb:as[n]? =some b1) (hsz:asz b1=asz b1')
  (hrec: ∀s,css[n]? =some s -> FV X b1 s -> (∃u1:Value,u1.cells.toList=s.take o'++t++s.drop (o'+t.length) /\ a18 X b1' u1) /\ o'+t.length <= s.length):
  ∃css',m7 (FV X) (as.set n b1') css' /\ css'.flatten=css.flatten.take (off c n+o')++t++css.flatten.drop (off c n+o'+t.length) /\ off c n+o'+t.length <= css.flatten.length:=by
 obtain ⟨s,hs,hv⟩:=hall.get hb
 obtain ⟨⟨u1,hu1,hr1⟩,hle⟩:=hrec s hs hv
 have hL:off c n=(css.take n).flatten.length:=by rw [f2u hall n,hlay];rfl
 obtain ⟨g1,g2⟩:=d3r css n s hs
 have hlen:u1.cells.toList.length=s.length:=by
  rw [hu1]
  simp only [qL,List.length_take,List.length_drop]
  omega
 refine ⟨css.set n u1.cells.toList,b5x n b1' _ hall ⟨by rw [hlen,hv.1,hsz],u1,rfl,hr1⟩,?_,by omega⟩
 rw [b10 css n s _ hs hlen,hlen,<- hL,hu1]
 have:=d1d (cs:=css.flatten) (o:=off c n) (k:=s.length) (o':=o') (t:=t) (by omega) hle
 rw [hL] at this⊢
 rw [g1] at this
 exact this
theorem b83 (hU:UOK U) {X:Cx} {as:List U.AV} {css:List (List Value)} (h:m7 (d7 Rp X.G X.w) as css):m7 (FV X) as css:=h.mono fun a s hh=>⟨a7j hU hh,by
  obtain ⟨u,h1,h2⟩:=a0k hh
  exact ⟨u,h1,h2⟩⟩
theorem c0k {X:Cx}: ∀{as:List U.AV} {css:List (List Value)},as.all u7=true -> m7 (fun a s=> ∃u:Value,u.cells.toList=s /\ b37 X a u) as css -> m7 (FV X) as css
 | [],[],_,_=>trivial
 | a::as,s::css,hp,h=>by
   simp only [List.all_cons,qB] at hp
   obtain ⟨u,hu,hr⟩:=h.1
   exact ⟨⟨by rw [<- hu];exact b81 hp.1 hr,u,hu,.of0 hr⟩,c0k hp.2 h.2⟩
 | [],_::_,_,h=>h.elim
 | _::_,[],_,h=>h.elim
theorem d4k {X:Cx}: ∀{as:List U.AV} {css:List (List Value)},as.all u7=true -> m7 (FV X) as css -> m7 (fun a s=> ∃u:Value,u.cells.toList=s /\ b37 X a u) as css
 | [],[],_,_=>trivial
 | a::as,s::css,hp,h=>by
   simp only [List.all_cons,qB] at hp
   obtain ⟨_,u,hu,hr⟩:=h.1
   exact ⟨⟨u,hu,hr.to0 hp.1⟩,d4k hp.2 h.2⟩
 | [],_::_,_,h=>h.elim
 | _::_,[],_,h=>h.elim
theorem e0m {α β:Type} (f:α -> β): ∀(l:List α) (n:Nat) (a b:α),l[n]? =some a -> f b=f a -> (l.set n b).map f=l.map f
 | [],n,a,b,h,_=>by simp at h
 | x::l,0,a,b,h,e=>by simp at h;subst h;simp [e]
 | x::l,n+1,a,b,h,e=>by simp only [List.set_cons_succ,List.map_cons];rw [e0m f l n a b (by simpa using h) e]
theorem d8e {α:Type} (p:α -> Bool): ∀(l:List α) (n:Nat) (b:α),l.all p=true -> p b=true -> (l.set n b).all p=true
 | [],n,b,_,_=>rfl
 | x::l,0,b,h,e=>by simp only [List.all_cons,qB,List.set_cons_zero] at h ⊢; exact ⟨e,h.2⟩
 | x::l,n+1,b,h,e=>by simp only [List.all_cons,qB,List.set_cons_succ] at h ⊢; exact ⟨h.1,d8e p l n b h.2 e⟩
theorem c67 {a b:U.AV} (h:c65 a b=true):u9 a=u9 b:=by
 unfold c65 at h
 split at h
 ·rename_i h1 h2;rw [h1,h2]
 ·rename_i c c' h1 h2
  rw [h1,h2,b4x h]
 ·cases h
theorem d2p {a0:U.AV} {p:List PE} {a1:U.AV} (hup:c0t b a0 p=some a1):p=[] \/ ∃c,u9 a0=some c:=by
 cases p with
 | nil=>exact .inl rfl
 | cons q p=>cases a0<;>first
   | exact .inr ⟨_,rfl⟩
   | (cases q<;>cases hup)
theorem b86 (hU:UOK U) {X:Cx} {ub:Value} (hb:a18 X b ub) (hp:a8j b=true): ∀(p:List PE) (a:U.AV) (c:U.C) (cs:List Value) (a':U.AV),cs.length=asz a -> (p≠[] -> ∃u:Value,u.cells.toList=cs /\ a18 X a u) -> c0t b a p=some a' -> (p=[] \/ u9 a=some c) -> okV c p -> asz a=asz a' ->
  (∃u',u'.cells.toList=cs.take (b0k c p)++ub.cells.toList++cs.drop (b0k c p+ub.cells.toList.length) /\ a18 X a' u') /\ b0k c p+ub.cells.toList.length <= cs.length /\ (p=[] -> a'=b)
 | [],a,c,cs,a',hl,_,hup,_,_,hsz=>by
   cases hup
   have h1:=d25 hU hp hb
   refine ⟨⟨ub,?_,hb⟩,?_,fun _=>rfl⟩
   ·simp only [b0k,List.take_zero,List.nil_append,Nat.zero_add]
    rw [List.drop_eq_nil_of_le (by omega),List.append_nil]
   ·simp only [b0k];omega
 | .f n::p,a,c,cs,a',hl,hr,hup,hc,hok,hsz=>by
   replace hc:u9 a=some c:=hc.resolve_left (fun h=>by cases h)
   obtain ⟨u,hu,hr0⟩:=hr (by simp)
   clear hr
   have go: ∀(as:List U.AV) (css:List (List Value)) (b1 b1':U.AV),m7 (FV X) as css -> as.map u9=U.lay c -> css.flatten=cs -> as[n]? =some b1 -> c0t b b1 p=some b1' -> asz b1=asz b1' ->
     ∃css',m7 (FV X) (as.set n b1') css' /\ css'.flatten=cs.take (b0k c (.f n::p))++ub.cells.toList++cs.drop (b0k c (.f n::p)+ub.cells.toList.length) /\ b0k c (.f n::p)+ub.cells.toList.length <= cs.length:=by
    intro as css b1 b1' hall hlay hcs hb1 hb2 hsb
    have hcode:(U.lay c)[n]? =some (u9 b1):=by rw [<- hlay,List.getElem?_map,hb1];rfl
    have hpre:p=[] \/ u9 b1=some ((u9 b1).getD c):=by
     cases p with
     | nil=>exact .inl rfl
     | cons q p=>
       right
       cases b1<;>first
        | rfl
        | (cases q<;>cases hb2)
    have hok1:okV ((u9 b1).getD c) p:=by
     simp only [okV,hcode] at hok
     cases hcb:u9 b1 with
     | some c1=>rw [hcb] at hok;exact hok
     | none=>
       rcases hpre with rfl | h1
       ·trivial
       ·rw [hcb] at h1;cases h1
    have hoff:b0k c (.f n::p)=off c n+b0k ((u9 b1).getD c) p:=by
     simp only [b0k,hcode]
     cases hcb:u9 b1 with
     | some c1=>rfl
     | none=>
       rcases hpre with rfl | h1
       ·rfl
       ·rw [hcb] at h1;cases h1
    rw [hoff]
    subst hcs
    refine e4s hall hlay hb1 hsb fun s hs hv=> ?_
    obtain ⟨h1,h2,_⟩:=b86 hU hb hp p b1 ((u9 b1).getD c) s b1' hv.1 (fun _=>hv.2) hb2 hpre hok1 hsb
    exact ⟨h1,h2⟩
   cases a<;>try (cases hc;done)
   case val c' xv=>
    cases hc
    simp only [c0t] at hup
    split at hup
    ·rename_i b1 hb1
     split at hup
     ·rename_i b1' hb2
      split at hup
      ·rename_i hszb
       simp only [qB] at hszb
       cases hmk:U.mkv c ((U.flds c xv).set n b1') with
       | none=>rw [hmk] at hup;cases hup
       | some yv=>
         rw [hmk] at hup
         cases hup
         obtain ⟨cs0,hcs0,hrep⟩:=hr0
         rw [hcs0] at hu
         have hu:cs0=cs:=by simpa [Value.cells] using hu
         subst hu
         obtain ⟨_,css,hcs,hall⟩:=a73.1 hrep
         obtain ⟨css',h1,h2,h3⟩:=go _ css b1 b1' (b83 hU hall) (hU.lay c xv) hcs.symm hb1 hb2 (qC hszb.1)
         refine ⟨⟨.agg css'.flatten.toArray,by rw [<- h2];simp [Value.cells],css'.flatten,rfl,c60 hU hmk (h1.mono fun _ _ h=>h.2)⟩,h3,fun h=>by cases h⟩
      ·cases hup
     ·cases hup
    ·cases hup
   case st c' as=>
    cases hc
    simp only [c0t] at hup
    split at hup
    ·rename_i b1 hb1
     split at hup
     ·rename_i b1' hb2
      split at hup
      ·rename_i hsc
       simp only [qB] at hsc
       have hco:=c67 hsc.1
       cases hup
       obtain ⟨css,hcs0,hlay,hpp,hrr⟩:=hr0
       rw [hcs0] at hu
       have hu:css.flatten=cs:=by simpa [Value.cells] using hu
       obtain ⟨css',h1,h2,h3⟩:=go _ css b1 b1' (c0k hpp hrr) hlay hu hb1 hb2 (by rw [<- a8m,<- a8m,hco])
       have hpp':=d8e u7 as n b1' hpp hsc.2
       refine ⟨⟨.agg css'.flatten.toArray,by rw [<- h2];simp [Value.cells],css',rfl,?_,hpp',d4k hpp' h1⟩,h3,fun h=>by cases h⟩
       rw [e0m u9 as n b1 b1' hb1 hco.symm];exact hlay
      ·cases hup
     ·cases hup
    ·cases hup
 | .i n::p,a,c,cs,a',hl,hr,hup,hc,hok,hsz=>by
   replace hc:u9 a=some c:=hc.resolve_left (fun h=>by cases h)
   obtain ⟨u,hu,hr0⟩:=hr (by simp)
   clear hr
   cases a<;>try (cases hup;done)
   case val c' xv=>
    cases hc
    simp only [c0t] at hup
    split at hup
    case h_2=>cases hup
    rename_i hA
    obtain ⟨h0,h1,hok⟩:=hok
    obtain ⟨y0,hget⟩:=e17 (l:=U.al c xv) h0 (by rw [(hU.arr c xv hA).2];exact h1)
    rw [hU.gt c xv n y0 hA hget] at hup
    split at hup
    case h_2=>cases hup
    rename_i a1 hup1
    split at hup
    case h_2=>cases hup
    rename_i y1 hprj
    cases hup
    obtain ⟨cs0,hcs0,hrep⟩:=hr0
    rw [hcs0] at hu
    have hu:cs0=cs:=by simpa [Value.cells] using hu
    subst hu
    obtain ⟨_,css,hcss,hall⟩:=a73.1 hrep
    rw [(hU.arr c xv hA).1] at hall
    obtain ⟨_,hg1,hg2⟩:=b7w (inj (U.ae c)) hget
    obtain ⟨s,hs,hfs⟩:=hall.get hg1
    have ht:=b7v hU (U.al c xv) css n.toNat hall (Nat.le_of_lt hg2)
    have hk3:=(a15 hU (U.ae c) y0).2.2
    have hps:=c0v hU hprj
    have hpre:p=[] \/ u9 (inj (U.ae c) y0:U.AV)=some (U.ae c):=by
     have hk2:=(a15 hU (U.ae c) y0).2.1
     cases hag:U.ag (U.ae c) with
     | true=>right;simp [inj,hag,u9]
     | false=>
       left
       rcases d2p hup1 with h | ⟨c1,h⟩
       ·exact h
       ·rw [hag] at hk2
        cases hi:(inj (U.ae c) y0:U.AV)<;>rw [hi] at h hk2<;>first
         | (cases h;done)
         | (cases hk2;done)
    have hsl:s.length=asz (inj (U.ae c) y0):=a7j hU hfs
    obtain ⟨⟨u',hu',hr'⟩,hle,_⟩:=b86 hU hb hp p (inj (U.ae c) y0) (U.ae c) s a1 hsl (fun _=>by obtain ⟨u,h1,h2⟩:=a0k (X:=X) hfs;exact ⟨u,h1,h2⟩) hup1 hpre hok (by rw [hk3,hps.1])
    have hrep1:=b3t hU hprj hr'
    have hul:u'.cells.toList.length=s.length:=by
     rw [hu']
     simp only [qL,List.length_take,List.length_drop]
     omega
    obtain ⟨q1,q2⟩:=d3r css n.toNat s hs
    have hnew:(css.set n.toNat u'.cells.toList).flatten=cs0.take (n.toNat*U.n (U.ae c)+b0k (U.ae c) p)++ub.cells.toList++cs0.drop (n.toNat*U.n (U.ae c)+b0k (U.ae c) p+ub.cells.toList.length):=by
     rw [b10 css n.toNat s _ hs hul,hul,hu',hcss]
     have:=d1d (cs:=css.flatten) (o:=(css.take n.toNat).flatten.length) (k:=s.length) (o':=b0k (U.ae c) p) (t:=ub.cells.toList) q2 hle
     rw [q1] at this
     rw [ht] at this⊢
     exact this
    refine ⟨⟨.agg (css.set n.toNat u'.cells.toList).flatten.toArray,?_,(css.set n.toNat u'.cells.toList).flatten,rfl,c1p hU ?_⟩,?_,fun h=>by cases h⟩
    ·show (Value.agg (css.set n.toNat u'.cells.toList).flatten.toArray).cells.toList=_
     rw [show (Value.agg (css.set n.toNat u'.cells.toList).flatten.toArray).cells.toList=(css.set n.toNat u'.cells.toList).flatten by simp [Value.cells],hnew]
     rfl
    ·rw [(hU.arr c _ hA).1,hU.ars c xv n y1 hA]
     have e:(b0i (U.al c xv) n y1).map (inj (U.ae c))=((U.al c xv).map (inj (U.ae c))).set n.toNat (inj (U.ae c) y1):=by
      unfold b0i
      rw [if_pos h0,List.map_set]
     rw [e]
     exact b5x _ _ _ hall (b2z hU hrep1)
    ·show n.toNat*U.n (U.ae c)+b0k (U.ae c) p+_ <= _
     rw [hcss,<- ht];omega
theorem a8i {t:TypeId} (h:b0e P t a=true):a8j a=true /\ f1g P t (a6c a)=true /\ d5f P t (asz a)=true:=by
 unfold b0e at h
 simp only [qB] at h
 exact ⟨h.1.1,h.1.2,h.2⟩
theorem c2l (hU:UOK U) {t:TypeId} {u:Value} (hf:b0e P t a=true) {X:Cx} (h:a18 X a u) (ad:Addr) (w:World):(Instr.storeAt t (.pointer (some ad)) u).run P w=(storeCells ad u.cells.toList).run P w:=by
 obtain ⟨hp,_,hs⟩:=a8i hf
 have hl:=d25 hU hp h
 simp [Instr.storeAt,Instr.sureAddr,storeVar,b19 hs,<- hl]
theorem c7f {G:Nat -> Prop} {o:Oper} {Φ:World -> Prop} (h: ∀(F:List Fact) (p:Plan),F[0]? =some (0,fun _ w'=>Φ w') -> p.mu.contains 0=true -> y9 P ⟨none,o.op,o.type,o.pos,o.after,o.guard⟩ (ev ρ) w fun v w'=>Ext (if p.mu.contains 0 then G else noG) w w' /\ fact F 0 (a9j ρ none v) w'):
  y9 P o (ev ρ) w fun v w'=>Ext G w w' /\ Φ w':=by
 have h1:=h [(0,fun _ w'=>Φ w')] (.plain [] [] [] [0] []) rfl rfl
 exact h1.mono fun v w' ⟨h2,h3⟩=>⟨h2,h3⟩
theorem b8a (hU:UOK U) (h:Rel E Z π σ ρ w) {t t0:TypeId} {id:Nat} {c:U.C} {p:List PE} {a0 a1:U.AV} {ub:Value} {ad:Addr} (hmem:σ.mem id= .box t0 a0) (hc:p=[] \/ u9 a0=some c) (hok:okV c p)
  (hf:b0e P t b=true) (hup:c0t b a0 p=some a1) (hsz:(Nat.beq (asz a0) (asz a1)&&(a6c a0==a6c a1)&&a8j a0)=true) (hb:a18 (cx Z π σ w) b ub) (hy:ev ρ y=ub) (had:b9b (π id)=some ad) (hx:ev ρ x= .pointer (some (ad.add (b0k c p)))) (hu:b39 σ id):
  a39 P E σ ρ w ⟨d,.store t x y,ty,ps,af,g⟩ .undef [(id,.box t0 a1)]:=by
 have hm:=h.mem id
 rw [hmem] at hm
 obtain ⟨blk,u,hv,hM,ha⟩:=hm
 rw [hv] at had
 cases had
 simp only [qB] at hsz
 have hpl:=hsz.2
 have hlen:=d25 hU hpl ha
 have hfr:p≠[] -> ∃u':Value,u'.cells.toList=u.cells.toList /\ a18 (cx Z π σ w) a0 u':=fun hp=>⟨u,rfl,ha⟩
 obtain ⟨⟨u',hu',hr'⟩,hle,_⟩:=b86 hU hb (a8i hf).1 p a0 c _ a1 hlen hfr hup hc hok (qC hsz.1.1)
 have hY:=c7f (P:=P) (ρ:=ρ) (w:=w) (G:=fun q=>q=blk) (o:=⟨d,.store t x y,ty,ps,af,g⟩) (Φ:=fun w'=>Mb w' blk t0 (u.cells.toList.take (b0k c p)++ub.cells.toList++u.cells.toList.drop (b0k c p+ub.cells.toList.length)))
  fun F pl hF hmu=>b6r hF hmu (fun _ h=>h) hx rfl hy hM (fun ad w=>c2l hU hf hb ad w) hle rfl (d2q (a8i hf).1 hb)
 unfold a39
 have hY2:y9 P ⟨d,.store t x y,ty,ps,af,g⟩ (ev ρ) w fun v w'=>v=undef /\ Ext (fun q=>q=blk) w w' /\ Mb w' blk t0 (u.cells.toList.take (b0k c p)++ub.cells.toList++u.cells.toList.drop (b0k c p+ub.cells.toList.length)):=by
  unfold y9 at hY⊢
  simp only [execOp,Sem.run_bind] at hY⊢
  cases hr:(Instr.storeAt t (ev ρ x) (ev ρ y)).run P w with
  | halt h0 w0=>rw [hr] at hY;exact hY.elim
  | ok v0 w0=>rw [hr] at hY;exact ⟨trivial,hY⟩
 refine hY2.mono fun v w' ⟨hv0,hE,hM'⟩=>⟨Z,π,?_⟩
 subst hv0
 refine h.set hu (fun h=>by cases h) (hE.mono fun q hq=> ?_) (fun X' hX hw=> ?_) (fun q hq=> ?_) (fun X' hX=>rfl)
 ·subst hq;rw [hmem,hv];rfl
 ·rw [hv]
  refine ⟨blk,u',rfl,?_,hr'.le hX⟩
  rw [hw,hu'];exact hM'
 ·rw [hmem];exact hq
theorem e01 {α β:Type} {p:α -> β -> Prop} {l:List α} {r:List β} {n:Int} {a:α} {b:β} (h:m7 p l r) (hp:p a b):m7 p (b0i l n a) (b0i r n b):=by
 unfold b0i
 split
 ·exact b5x _ _ _ h hp
 ·exact h
theorem e2v (hU:UOK U) (h:Rel E Z π σ ρ w) {t e:TypeId} {id:Nat} {c:U.C} {p:List PE} {l:List (U.T c)} {n:Int} {y0 y1:U.T c} {a1:U.AV} {ub:Value} {ad:Addr} (hmem:σ.mem id= .sl e c l) (hok:okV c p) (hget:c8 l n=some y0)
  (hf:b0e P t b=true) (hup:c0t b (inj c y0) p=some a1) (hprj:prj c a1=some y1) (hb:a18 (cx Z π σ w) b ub) (hy:ev ρ y=ub) (had:b9b (π id)=some ad) (hx:ev ρ x= .pointer (some (ad.add (c51 c (.i n::p))))) (hu:b39 σ id):
  a39 P E σ ρ w ⟨d,.store t x y,ty,ps,af,g⟩ .undef [(id,.sl e c (b0i l n y1))]:=by
 have hm:=h.mem id
 rw [hmem] at hm
 obtain ⟨css,hO,hr⟩:=hm
 obtain ⟨r0,hr0,hrep⟩:=b8i hr hget
 obtain ⟨ad',cap,hv,hi,hca⟩:=Own.elem hO hr0
 rw [hv] at had
 cases had
 obtain ⟨hk1,hk2,hk3⟩:=a15 hU c y0
 have hps:=c0v hU hprj
 have hc:p=[] \/ u9 (inj c y0:U.AV)=some c:=by
  cases hag:U.ag c with
  | true=>right;simp [inj,hag,u9]
  | false=>
    left
    rcases d2p hup with h | ⟨c1,h⟩
    ·exact h
    ·rw [hag] at hk2
     cases hi:(inj c y0:U.AV)<;>rw [hi] at h hk2<;>first
      | (cases h;done)
      | (cases hk2;done)
 obtain ⟨⟨u',hu',hr'⟩,hle,_⟩:=b86 hU hb (a8i hf).1 p (inj c y0) c r0.1 a1 (by rw [r0.2.1,hk3]) (fun _=>by obtain ⟨u,h1,h2⟩:=d10 hU (X:=cx Z π σ w) hrep;exact ⟨u,h1,h2⟩) hup hc hok (by rw [hk3,hps.1])
 have hrep1:=b3t hU hprj hr'
 have hY:=c7f (P:=P) (ρ:=ρ) (w:=w) (G:=fun q=>(π id).ownBlock=some q) (o:=⟨d,.store t x y,ty,ps,af,g⟩) (Φ:=fun w'=>Own 0 e (U.n c) Subtype.val w' (π id) (b0i css n (c45 hrep1)))
  fun F pl hF hmu=>c7p (off:=b0k c p) (y0:=r0) hF hmu (fun _ h=>h) (fun r=>r.2.1) hx hv (by simp only [c51]) hy hO hr0 (fun ad w=>c2l hU hf hb ad w) (by rw [<- r0.2.1];exact hle) (by rw [show (c45 hrep1).1=u'.cells.toList from rfl,hu']) (d2q (a8i hf).1 hb)
 have hY2:y9 P ⟨d,.store t x y,ty,ps,af,g⟩ (ev ρ) w fun v w'=>v=undef /\ Ext (fun q=>(π id).ownBlock=some q) w w' /\ Own 0 e (U.n c) Subtype.val w' (π id) (b0i css n (c45 hrep1)):=by
  unfold y9 at hY⊢
  simp only [execOp,Sem.run_bind] at hY⊢
  cases hr:(Instr.storeAt t (ev ρ x) (ev ρ y)).run P w with
  | halt h0 w0=>rw [hr] at hY;exact hY.elim
  | ok v0 w0=>rw [hr] at hY;exact ⟨trivial,hY⟩
 refine hY2.mono fun v w' ⟨hv0,hE,hO'⟩=>⟨Z,π,?_⟩
 subst hv0
 refine h.set hu (fun h=>by cases h) (hE.mono fun q hq=> ?_) (fun X' hX hw=> ?_) (fun q hq=> ?_) (fun X' hX=>rfl)
 ·rw [hmem];exact (a6t hv).1 hq
 ·refine ⟨_,by rw [hw];exact hO',?_⟩
  exact e01 (hr.mono fun r x hh=>b8h hX hh) (b8h hX hrep1)
 ·rw [hmem];exact hq
theorem d9v (hU:UOK U) (h:Rel E Z π σ ρ w) {t t0:TypeId} {id:Nat} {ca:U.C} {p:List PE} {xv:U.T ca} {n:Int} {y0 y1:U.T (U.ae ca)} {a1:U.AV} {ub:Value} {ad:Addr} (hmem:σ.mem id= .box t0 (.val ca xv)) (hok:okV (U.ae ca) p) (hA:U.isA ca=true) (hget:c8 (U.al ca xv) n=some y0)
  (hf:b0e P t b=true) (hup:c0t b (inj (U.ae ca) y0) p=some a1) (hprj:prj (U.ae ca) a1=some y1) (hb:a18 (cx Z π σ w) b ub) (hy:ev ρ y=ub) (had:b9b (π id)=some ad) (hx:ev ρ x= .pointer (some (ad.add (c51 (U.ae ca) (.i n::p))))) (hu:b39 σ id):
  a39 P E σ ρ w ⟨d,.store t x y,ty,ps,af,g⟩ .undef [(id,.box t0 (.val ca (U.as ca xv n y1)))]:=by
 have hm:=h.mem id
 rw [hmem] at hm
 obtain ⟨blk,u,hv,hM,ha⟩:=hm
 rw [hv] at had
 cases had
 obtain ⟨cs,hcs,hrep⟩:=ha
 obtain ⟨_,css,hcss,hall⟩:=a73.1 hrep
 rw [(hU.arr ca xv hA).1] at hall
 obtain ⟨h0,hg1,hg2⟩:=b7w (inj (U.ae ca)) hget
 obtain ⟨s,hs,hfs⟩:=hall.get hg1
 have ht:=b7v hU (U.al ca xv) css n.toNat hall (Nat.le_of_lt hg2)
 have hk3:=(a15 hU (U.ae ca) y0).2.2
 have hps:=c0v hU hprj
 have hc:p=[] \/ u9 (inj (U.ae ca) y0:U.AV)=some (U.ae ca):=by
  have hk2:=(a15 hU (U.ae ca) y0).2.1
  cases hag:U.ag (U.ae ca) with
  | true=>right;simp [inj,hag,u9]
  | false=>
    left
    rcases d2p hup with h | ⟨c1,h⟩
    ·exact h
    ·rw [hag] at hk2
     cases hi:(inj (U.ae ca) y0:U.AV)<;>rw [hi] at h hk2<;>first
      | (cases h;done)
      | (cases hk2;done)
 have hsl:s.length=asz (inj (U.ae ca) y0):=a7j hU hfs
 obtain ⟨⟨u',hu',hr'⟩,hle,_⟩:=b86 hU hb (a8i hf).1 p (inj (U.ae ca) y0) (U.ae ca) s a1 hsl (fun _=>by obtain ⟨u,h1,h2⟩:=a0k (X:=cx Z π σ w) hfs;exact ⟨u,h1,h2⟩) hup hc hok (by rw [hk3,hps.1])
 have hrep1:=b3t hU hprj hr'
 have hul:u'.cells.toList.length=s.length:=by
  rw [hu']
  simp only [qL,List.length_take,List.length_drop]
  omega
 obtain ⟨q1,q2⟩:=d3r css n.toNat s hs
 have hnew:(css.set n.toNat u'.cells.toList).flatten=cs.take (n.toNat*U.n (U.ae ca)+b0k (U.ae ca) p)++ub.cells.toList++cs.drop (n.toNat*U.n (U.ae ca)+b0k (U.ae ca) p+ub.cells.toList.length):=by
  rw [b10 css n.toNat s _ hs hul,hul,hu',<- hcss]
  have:=d1d (cs:=css.flatten) (o:=(css.take n.toNat).flatten.length) (k:=s.length) (o':=b0k (U.ae ca) p) (t:=ub.cells.toList) q2 hle
  rw [q1] at this
  rw [ht] at this⊢
  rw [hcss]
  exact this
 have hL:n.toNat*U.n (U.ae ca)+b0k (U.ae ca) p+ub.cells.toList.length <= cs.length:=by
  rw [hcss,<- ht];omega
 have hY:=c7f (P:=P) (ρ:=ρ) (w:=w) (G:=fun q=>q=blk) (o:=⟨d,.store t x y,ty,ps,af,g⟩) (Φ:=fun w'=>Mb w' blk t0 (cs.take (n.toNat*U.n (U.ae ca)+b0k (U.ae ca) p)++ub.cells.toList++cs.drop (n.toNat*U.n (U.ae ca)+b0k (U.ae ca) p+ub.cells.toList.length)))
  fun F pl hF hmu=>b6r hF hmu (fun _ h=>h) hx rfl hy (show Mb w blk t0 cs by have h9:Mb w blk t0 u.cells.toList:=hM;rw [hcs] at h9;simpa [Value.cells] using h9) (fun ad w=>c2l hU hf hb ad w) hL rfl (d2q (a8i hf).1 hb)
 have hY2:y9 P ⟨d,.store t x y,ty,ps,af,g⟩ (ev ρ) w fun v w'=>v=undef /\ Ext (fun q=>q=blk) w w' /\ Mb w' blk t0 (cs.take (n.toNat*U.n (U.ae ca)+b0k (U.ae ca) p)++ub.cells.toList++cs.drop (n.toNat*U.n (U.ae ca)+b0k (U.ae ca) p+ub.cells.toList.length)):=by
  unfold y9 at hY⊢
  simp only [execOp,Sem.run_bind] at hY⊢
  cases hr:(Instr.storeAt t (ev ρ x) (ev ρ y)).run P w with
  | halt h0 w0=>rw [hr] at hY;exact hY.elim
  | ok v0 w0=>rw [hr] at hY;exact ⟨trivial,hY⟩
 refine hY2.mono fun v w' ⟨hv0,hE,hM'⟩=>⟨Z,π,?_⟩
 subst hv0
 refine h.set hu (fun h=>by cases h) (hE.mono fun q hq=> ?_) (fun X' hX hw=> ?_) (fun q hq=> ?_) (fun X' hX=>rfl)
 ·subst hq;rw [hmem,hv];rfl
 ·rw [hv]
  refine ⟨blk,.agg (css.set n.toNat u'.cells.toList).flatten.toArray,rfl,?_,(css.set n.toNat u'.cells.toList).flatten,rfl,?_⟩
  ·rw [hw]
   have:(Value.agg (css.set n.toNat u'.cells.toList).flatten.toArray).cells.toList=(css.set n.toNat u'.cells.toList).flatten:=by simp [Value.cells]
   rw [this,hnew];exact hM'
  ·refine c1p hU ?_
   rw [(hU.arr ca _ hA).1,hU.ars ca xv n y1 hA]
   have e:(b0i (U.al ca xv) n y1).map (inj (U.ae ca))=((U.al ca xv).map (inj (U.ae ca))).set n.toNat (inj (U.ae ca) y1):=by
    unfold b0i
    rw [if_pos h0,List.map_set]
   rw [e]
   exact b5x _ _ _ (hall.mono fun a s hh=>hh.le hX) (b2z hU (b8h hX hrep1))
 ·rw [hmem];exact hq
theorem c0y (hU:UOK U) (h:Rel E Z π σ ρ w) {t:TypeId} {id:Nat} {c:U.C} {p:List PE} {ub:Value} {ad:Addr} (hf:b0e P t b=true) (hy1:a18 (cx Z π σ w) b ub) (hyv:ev ρ y=ub) (hu:b39 σ id) (had:b9b (π id)=some ad) (hv:ev ρ x= .pointer (some (ad.add (c51 c p)))) (hcm:b5c c (σ.mem id) p=true) (hok:okP c p)
  (hev:(d0q (σ.mem id) p b fun m'=>(Q.done .undef [(id,m')]:U.Q)).Ev σ m0 m v ws):a39 P E σ ρ w ⟨d,.store t x y,ty,ps,af,g⟩ v ws:=by
 cases hmem:σ.mem id<;>rw [hmem] at hev hcm<;>try exact hev.elim
 case box t0 a0=>
  have gen:(match c0t b a0 p with
    | some a'=>(match Nat.beq (asz a0) (asz a')&&(a6c a0==a6c a')&&a8j a0 with | true=>Q.done .undef [(id,.box t0 a')] | false=> .fail)
    | none=>(.fail:U.Q)).Ev σ m0 m v ws -> e9m c (.box t0 a0)=true -> okV c p -> ev ρ x= .pointer (some (ad.add (b0k c p))) -> a39 P E σ ρ w ⟨d,.store t x y,ty,ps,af,g⟩ v ws:=by
   intro hev hcm hok hv
   split at hev
   ·rename_i a1 hup
    split at hev
    ·rename_i hs
     obtain ⟨hm1,rfl,rfl⟩:=hev
     refine b8a hU h hmem (.inr ?_) hok hf hup hs hy1 hyv had hv hu
     clear hup hs hmem
     cases a0<;>try (cases hcm;done)
     all_goals
      have:=b4x hcm
      subst this
      rfl
    ·exact hev.elim
   ·exact hev.elim
  cases p with
  | nil=>exact gen (by cases a0<;>exact hev) (by cases a0<;>exact hcm) trivial hv
  | cons q p=>cases q with
    | f n=>exact gen (by cases a0<;>exact hev) (by cases a0<;>exact hcm) hok hv
    | i n=>
      have plain:c0t b a0 (.i n::p)=none -> (match c0t b a0 (.i n::p) with
        | some a'=>(match Nat.beq (asz a0) (asz a')&&(a6c a0==a6c a')&&a8j a0 with | true=>Q.done .undef [(id,.box t0 a')] | false=> .fail)
        | none=>(.fail:U.Q)).Ev σ m0 m v ws -> a39 P E σ ρ w ⟨d,.store t x y,ty,ps,af,g⟩ v ws:=by
       intro hn hev
       rw [hn] at hev;exact hev.elim
      cases a0<;>try exact plain rfl hev
      rename_i ca xv
      have hev:(match U.isA ca with
       | true=>Q.opt (c8 (U.al ca xv) n) fun y=>(match c0t b (inj (U.ae ca) y) p with
         | some a'=>(match prj (U.ae ca) a' with | some y'=>Q.done .undef [(id,.box t0 (.val ca (U.as ca xv n y')))] | none=> .fail)
         | none=> .fail)
       | false=>(.fail:U.Q)).Ev σ m0 m v ws:=hev
      have hcm:(U.isA ca&&eqC c (U.ae ca))=true:=hcm
      simp only [qB] at hcm
      rw [hcm.1] at hev
      obtain ⟨y0,hy0,hev⟩:=hev
      have hcc:=b4x hcm.2
      subst hcc
      dsimp only at hev
      split at hev
      ·rename_i a1 hup
       split at hev
       ·rename_i y1 hprj
        obtain ⟨hm1,rfl,rfl⟩:=hev
        exact d9v hU h hmem hok hcm.1 hy0 hf hup hprj hy1 hyv had hv hu
       ·exact hev.elim
      ·exact hev.elim
 case sl e c' l=>
  have:=b4x hcm
  subst this
  cases p with
  | nil=>exact hev.elim
  | cons q p=>cases q with
    | f n=>exact hev.elim
    | i n=>
      obtain ⟨y0,hy0,hev⟩:=hev
      dsimp only at hev
      split at hev
      ·rename_i a1 hup
       split at hev
       ·rename_i y1 hprj
        obtain ⟨hm1,rfl,rfl⟩:=hev
        exact e2v hU h hmem hok hy0 hf hup hprj hy1 hyv had hv hu
       ·exact hev.elim
      ·exact hev.elim
theorem d1w {mm:U.MC} {p:List PE} {k:U.MC -> U.Q} (hev:(d0q mm p b k).Ev σ m0 m v ws): ∃m' m1,(k m').Ev σ m1 m v ws /\ ∀(σ2:U.St) (k2:U.MC -> U.Q) (m2:Nat) (v2:U.AV) (ws2:List (Nat×U.MC)),(k2 m').Ev σ2 m1 m2 v2 ws2 -> (d0q mm p b k2).Ev σ2 m1 m2 v2 ws2:=by
 cases mm<;>try exact hev.elim
 case box t0 a0=>
  have arr: ∀(ca:U.C) (xv:U.T ca) (n:Int) (p':List PE),a0= .val ca xv -> p= .i n::p' -> ∃m' m1,(k m').Ev σ m1 m v ws /\ ∀(σ2:U.St) (k2:U.MC -> U.Q) (m2:Nat) (v2:U.AV) (ws2:List (Nat×U.MC)),(k2 m').Ev σ2 m1 m2 v2 ws2 -> (d0q (.box t0 a0) p b k2).Ev σ2 m1 m2 v2 ws2:=by
   intro ca xv n p' e1 e2
   subst e1;subst e2
   have hev:(match U.isA ca with
    | true=>Q.opt (c8 (U.al ca xv) n) fun y=>(match c0t b (inj (U.ae ca) y) p' with
      | some a'=>(match prj (U.ae ca) a' with | some y'=>k (.box t0 (.val ca (U.as ca xv n y'))) | none=> .fail)
      | none=> .fail)
    | false=>(.fail:U.Q)).Ev σ m0 m v ws:=hev
   split at hev
   ·rename_i hA
    obtain ⟨y0,hy0,hev⟩:=hev
    dsimp only at hev
    split at hev
    ·rename_i a1 hup
     split at hev
     ·rename_i y1 hprj
      refine ⟨_,_,hev,fun σ2 k2 m2 v2 ws2 h2=> ?_⟩
      show (match U.isA ca with
       | true=>Q.opt (c8 (U.al ca xv) n) fun y=>(match c0t b (inj (U.ae ca) y) p' with
         | some a'=>(match prj (U.ae ca) a' with | some y'=>k2 (.box t0 (.val ca (U.as ca xv n y'))) | none=> .fail)
         | none=> .fail)
       | false=>(.fail:U.Q)).Ev σ2 _ _ _ _
      rw [hA]
      refine ⟨y0,hy0,?_⟩
      dsimp only
      rw [hup]
      dsimp only
      rw [hprj];exact h2
     ·exact hev.elim
    ·exact hev.elim
   ·exact hev.elim
  have hb:(∃ca xv n p',a0= .val ca xv /\ p= .i n::p') \/ ∀kk:U.MC -> U.Q,d0q (.box t0 a0) p b kk=(match c0t b a0 p with
   | some a'=>(match Nat.beq (asz a0) (asz a')&&(a6c a0==a6c a')&&a8j a0 with | true=>kk (.box t0 a') | false=> .fail)
   | none=>(.fail:U.Q)):=by
   cases a0
   case val ca xv=>
    cases p with
    | nil=>exact .inr fun _=>rfl
    | cons q p=>cases q with
      | f n=>exact .inr fun _=>rfl
      | i n=>exact .inl ⟨_,_,n,p,rfl,rfl⟩
   all_goals exact .inr fun _=>by cases p<;>rfl
  rcases hb with ⟨ca,xv,n,p',e1,e2⟩ | hb
  ·exact arr ca xv n p' e1 e2
  rw [hb k] at hev
  have hev:(match c0t b a0 p with
   | some a'=>(match Nat.beq (asz a0) (asz a')&&(a6c a0==a6c a')&&a8j a0 with | true=>k (.box t0 a') | false=> .fail)
   | none=>(.fail:U.Q)).Ev σ _ m v ws:=hev
  split at hev
  ·rename_i a1 hup
   split at hev
   ·rename_i hs
    refine ⟨_,_,hev,fun σ2 k2 m2 v2 ws2 h2=> ?_⟩
    rw [hb k2]
    show (match c0t b a0 p with
     | some a'=>(match Nat.beq (asz a0) (asz a')&&(a6c a0==a6c a')&&a8j a0 with | true=>k2 (.box t0 a') | false=> .fail)
     | none=>(.fail:U.Q)).Ev σ2 _ _ _ _
    rw [hup]
    dsimp only
    rw [hs];exact h2
   ·exact hev.elim
  ·exact hev.elim
 case sl e c l=>
  cases p with
  | nil=>exact hev.elim
  | cons q p=>cases q with
    | f n=>exact hev.elim
    | i n=>
      obtain ⟨y0,hy0,hev⟩:=hev
      dsimp only at hev
      split at hev
      ·rename_i a1 hup
       split at hev
       ·rename_i y1 hprj
        refine ⟨_,_,hev,fun σ2 k2 m2 v2 ws2 h2=>⟨y0,hy0,?_⟩⟩
        dsimp only
        rw [hup]
        dsimp only
        rw [hprj];exact h2
       ·exact hev.elim
      ·exact hev.elim
theorem d6u (hU:UOK U) (h:Rel E Z π σ ρ w) {t:TypeId} (hx:AVR (cx Z π σ w) a (ev ρ x)) (hy:AVR (cx Z π σ w) b (ev ρ y)) (hev:(d9h P fr t a b).Ev σ m0 m v ws):a39 P E σ ρ w ⟨d,.store t x y,ty,ps,af,g⟩ v ws:=by
 unfold d9h at hev
 split at hev
 case h_2=>exact hev.elim
 rename_i hf
 have hy1:=a6k (a96 (a8i hf).1) hy
 split at hev
 ·rename_i id
  have hev:(d0q (σ.mem id) [] b fun m'=>(match m' with
   | .box t' a=>b90 P fr t' id a .undef [(id,.box t' a)]
   | _=> .fail)).Ev σ _ m v ws:=hev
  cases hmem:σ.mem id<;>rw [hmem] at hev<;>try exact hev.elim
  rename_i t0 a0
  have e0: ∀kk:U.MC -> U.Q,d0q (.box t0 a0) [] b kk=(match Nat.beq (asz a0) (asz b)&&(a6c a0==a6c b)&&a8j a0 with | true=>kk (.box t0 b) | false=>(.fail:U.Q)):=fun kk=>by cases a0<;>rfl
  rw [e0] at hev
  have hev:(match Nat.beq (asz a0) (asz b)&&(a6c a0==a6c b)&&a8j a0 with | true=>b90 P fr t0 id b .undef [(id,.box t0 b)] | false=>(.fail:U.Q)).Ev σ _ m v ws:=hev
  split at hev
  ·rename_i hs
   have hm:=h.mem id
   rw [hmem] at hm
   obtain ⟨blk,u,hv,hM,ha⟩:=hm
   refine b7k (b8a hU h (c:=U.c0) (p:=[]) hmem (.inl rfl) trivial hf rfl hs hy1 rfl (ad:=⟨blk,0,none⟩) (by rw [hv];rfl) ?_ hx.1) b31 (fun i _ hn=>a45 (fun e=> ?_)) hev
   ·rw [hx.2.1]
    show π id= .pointer (some (Addr.add _ 0))
    rw [hv];rfl
   ·rw [e,hmem] at hn;cases hn
  ·exact hev.elim
 ·rename_i id c p
  obtain ⟨hu,ad,had,hok,hv⟩:=hx
  have hev:(match b5c c (σ.mem id) p with
   | true=>(match f2a (σ.mem id) p b with
     | true=>d0q (σ.mem id) p b fun m'=> .done .undef [(id,m')]
     | false=>(match b5e id b with
       | true=> .fail
       | false=>d0r [b] fun as ws=>(match as with
         | [y']=>(match b0e P t y' with | true=>d0q (σ.mem id) p y' fun m'=> .done .undef ((id,m')::ws) | false=> .fail)
         | _=> .fail)))
   | false=>(.fail:U.Q)).Ev σ _ m v ws:=hev
  cases hcm:b5c c (σ.mem id) p with
  | false=>rw [hcm] at hev;exact hev.elim
  | true=>
    rw [hcm] at hev
    dsimp only at hev
    split at hev
    ·exact c0y hU h hf hy1 rfl hu had hv hcm hok hev
    ·split at hev
     ·exact hev.elim
     rename_i hsame
     obtain ⟨as',fz,m1,hev,_,hfz,hfm,hA⟩:=b9p hU h (as:=[b]) (us:=[ev ρ y]) ⟨hy,trivial⟩ hev
     split at hev
     case h_2=>exact hev.elim
     rename_i y'
     split at hev
     case h_2=>exact hev.elim
     rename_i hf'
     have hfr:=h.freeze hfz
     have hy':=(hA fz hfz fun q hq=>⟨hq,d75 hq⟩).1
     have hy1':=a6k (a96 (a8i hf').1) hy'
     obtain ⟨m',m2,hd,hset⟩:=d1w hev
     obtain ⟨_,hv0,hws⟩:=hd
     rw [hv0,hws]
     have hmem':(σ.app none .unk fz).mem id=σ.mem id:=by
      rw [m5]
      cases hl:lk id fz with
      | none=>rfl
      | some mm=>
        exfalso
        have:=hfm _ (a98 hl)
        simp only [qF] at this
        rw [<- this] at hsame
        simp [b5e] at hsame
     have hev2:=hset (σ.app none .unk fz) (fun m'=>Q.done .undef [(id,m')]) m2 .undef [(id,m')] ⟨rfl,rfl,rfl⟩
     rw [<- hmem'] at hev2 hcm
     have hu':b39 (σ.app none .unk fz) id:=by unfold b39;rw [hmem'];exact hu
     exact b4e h hfz (ws:=[(id,m')]) (c0y hU hfr hf' hy1' rfl hu' had hv hcm hok hev2)
 ·exact hev.elim
theorem c9u {a:U.AV} (h:b4v a=true):u7 a=true:=by cases a<;>first | rfl | cases h
theorem d9d (hU:UOK U) {X:Cx} {c:U.C} {z:U.T c} {u:Value} (h:a18 X (.val c z:U.AV) u):a18 X (.st c (U.flds c z):U.AV) u:=by
 obtain ⟨cs,hv,hr⟩:=h
 obtain ⟨_,css,rfl,hh⟩:=a73.1 hr
 refine ⟨css,hv,hU.lay c z,List.all_eq_true.2 fun a ha=>c9u (List.all_eq_true.1 (hU.kind c z) a ha),?_⟩
 have key: ∀(as:List U.AV) (css:List (List Value)),as.all b4v=true -> m7 (d7 Rp X.G X.w) as css -> m7 (fun a cs=> ∃u:Value,u.cells.toList=cs /\ b37 X a u) as css:=by
  intro as
  induction as with
  | nil=>
    intro css _ h
    cases css with
    | nil=>exact trivial
    | cons=>exact h.elim
  | cons a as ih=>
    intro css hk h
    cases css with
    | nil=>exact h.elim
    | cons s css=>
      simp only [List.all_cons,qB] at hk
      obtain ⟨u1,hu1,hr1⟩:=a0k h.1
      refine ⟨⟨u1,hu1,?_⟩,ih css hk.2 h.2⟩
      cases a<;>first | exact hr1 | cases hk.1
 exact key _ _ (hU.kind c z) hh
theorem Rel.congrE {σ':U.St} (h:Rel E Z π σ' ρ w) (hs: ∀t,σ.slot t=σ'.slot t) (hm: ∀id,σ.mem id=σ'.mem id):Rel E Z π σ ρ w:=by
 have hcx:cx Z π σ w=cx Z π σ' w:=by
  unfold cx
  congr 1
  funext id
  unfold b39
  rw [hm id]
 exact ⟨fun t=>by rw [hcx,hs];exact h.slot t,fun id=>by rw [hcx,hm];exact h.mem id,fun id b hb=>h.own id b (by rw [<- hm];exact hb),fun id id' b hne hb=>by rw [hm] at hb ⊢; exact h.dist id id' b hne hb,h.zlt,h.zin,h.zout,h.ext,fun id hp=>⟨by unfold b39;rw [hm];exact (h.pin id hp).1,(h.pin id hp).2⟩,h.tab⟩
theorem d1m (hU:UOK U) (h:Rel E Z π σ ρ w) {t:TypeId} (hx:AVR (cx Z π σ w) a (ev ρ x)) (hy:AVR (cx Z π σ w) b (ev ρ y)) (hev:(d1l P fr t a b).Ev σ m0 m v ws):a39 P E σ ρ w ⟨d,.store t x y,ty,ps,af,g⟩ v ws:=by
 unfold d1l at hev
 split at hev
 case h_2=>exact hev.elim
 rename_i id c n hf
 have hy1:=a6k (a96 (a8i hf).1) hy
 obtain ⟨hu,ad,had,hok,hv⟩:=hx
 have hev:(match σ.mem id with
  | .box t' (.val c' z)=>(match eqC c c'&& !(b5e id b) with
    | true=>d0q (.box t' (.st c' (U.flds c' z))) [.f n] b fun m'=>(match m' with | .box t1 a=>b90 P fr t1 id a .undef [(id,.box t1 a)] | _=> .fail)
    | false=> .fail)
  | .box t' (.st c' fs)=>(match eqC c c'&& !(b5e id b) with
    | true=>d0q (.box t' (.st c' fs)) [.f n] b fun m'=>(match m' with | .box t1 a=>b90 P fr t1 id a .undef [(id,.box t1 a)] | _=> .fail)
    | false=> .fail)
  | _=>(.fail:U.Q)).Ev σ _ m v ws:=hev
 split at hev
 ·rename_i t' c' z hmem
  split at hev
  case h_2=>exact hev.elim
  rename_i hck
  have hm:=h.mem id
  rw [hmem] at hm
  obtain ⟨blk,u,hpv,hM,ha⟩:=hm
  obtain ⟨σ1,hσ1⟩: ∃σ1,σ1=σ.app none .unk [(id,.box t' (.st c' (U.flds c' z)))]:=⟨_,rfl⟩
  have h1:Rel E Z π σ1 ρ w:=by
   rw [hσ1]
   exact h.set (id:=id) (mc:= .box t' (.st c' (U.flds c' z))) (d:=none) (a:= .unk) (v':=undef) (fun hh=>by rw [hmem] at hh;cases hh) (fun hh=>by cases hh) (Ext.refl _ w) (fun X' hle hw=>⟨blk,u,hpv,by rw [hw];exact hM,d9d hU (ha.le hle)⟩) (fun q hq=>by rw [hmem];exact hq) fun _ _=>trivial
  have hmem1:σ1.mem id= .box t' (.st c' (U.flds c' z)):=by rw [hσ1];exact b31
  have hmo: ∀j,j≠id -> σ1.mem j=σ.mem j:=fun j hj=>by rw [hσ1,m5,a45 hj]
  have hcx:cx Z π σ1 w=cx Z π σ w:=by
   unfold cx
   congr 1
   funext j
   unfold b39
   by_cases hj:j=id
   ·subst hj
    rw [hmem1,hmem]
    exact propext ⟨fun _=>fun hh=>(by cases hh),fun _=>fun hh=>(by cases hh)⟩
   ·rw [hmo j hj]
  obtain ⟨m',m3,hd,hset⟩:=d1w hev
  split at hd
  ·rename_i t1 a1
   have hev2:=hset σ1 (fun m'=>Q.done .undef [(id,m')]) m3 .undef [(id,.box t1 a1)] ⟨rfl,rfl,rfl⟩
   simp only [qB] at hck
   rw [<- hmem1] at hev2
   have hg:=c0y (P:=P) (d:=d) (ty:=ty) (ps:=ps) (af:=af) (g:=g) (x:=x) (y:=y) hU h1 hf (by rw [hcx];exact hy1) rfl (by unfold b39;rw [hmem1];intro hh;cases hh) had hv (by rw [hmem1];exact hck.1) hok hev2
   refine b7k ?_ b31 (fun i _ hn=>a45 (fun e=> ?_)) hd
   ·refine y9.mono hg fun u w' ⟨Z',π',hR⟩=>⟨Z',π',hR.congrE (fun t=> ?_) fun j=> ?_⟩
    ·rw [p9,p9,hσ1,p9];rfl
    ·rw [m5,m5]
     by_cases hj:j=id
     ·subst hj;rw [b36]
     ·rw [a45 hj];exact (hmo j hj).symm
   ·rw [e,hmem] at hn;cases hn
  ·exact hd.elim
 ·rename_i t' c' fs hmem
  split at hev
  case h_2=>exact hev.elim
  rename_i hck
  simp only [qB] at hck
  obtain ⟨m',m3,hd,hset⟩:=d1w hev
  split at hd
  ·rename_i t1 a1
   have hev2:=hset σ (fun m'=>Q.done .undef [(id,m')]) m3 .undef [(id,.box t1 a1)] ⟨rfl,rfl,rfl⟩
   rw [<- hmem] at hev2
   exact b7k (c0y hU h hf hy1 rfl hu had hv (by rw [hmem];exact hck.1) hok hev2) b31 (fun i _ hn=>a45 (fun e=>by rw [e,hmem] at hn;cases hn)) hd
  ·exact hd.elim
 ·exact hev.elim
end
end Go.SX
namespace Go.SX
open Go Go.PL
section
variable {P:Program} {U:Uni} {E:Env} {Z:Nat -> Prop} {π:Nat -> Value} {σ:U.St} {ρ:Nat -> Value} {w:World}
variable {d:Option Tmp} {ty:TypeId} {ps:String} {af:Array Edge} {g:Option (Nat×Bool)} {x y z:Operand} {m0 m:Nat} {a b v:U.AV} {ws:List (Nat×U.MC)} {fr:Nat}
theorem d7d (o:Nat) (vs:Array Value) (cells:Array Value) (h:o+vs.size <= cells.size):
  (vs.zipIdx.foldl (fun cs (c,j)=>cs.setIfInBounds (o+j) c) cells).toList=cells.toList.take o++vs.toList++cells.toList.drop (o+vs.toList.length):=by
 have hf:=Great.foldl_set o vs.toList 0 cells
 rw [<- Array.foldl_toList,Array.toList_zipIdx]
 obtain ⟨h1,h2⟩:=hf
 apply List.ext_getElem?
 intro k
 rw [Array.getElem?_toList]
 have h3:=h2 k
 simp only [Nat.add_zero] at h3
 refine Eq.trans h3 ?_
 have hl:vs.toList.length=vs.size:=by simp
 have hc:cells.toList.length=cells.size:=by simp
 rw [List.getElem?_append,List.getElem?_append]
 simp only [qL,List.length_take,hl,hc,Nat.min_eq_left (show o <= cells.size by omega)]
 by_cases k1:k<o
 ·rw [if_neg (by omega),if_pos (by omega),if_pos k1,List.getElem?_take_of_lt k1,Array.getElem?_toList]
 ·by_cases k2:k<o+vs.size
  ·rw [if_pos ⟨by omega,k2,by omega⟩,if_pos k2,if_neg k1]
  ·rw [if_neg (by omega),if_neg k2,List.getElem?_drop,Array.getElem?_toList]
   congr 1;omega
def d84 (l:List Nat) (i:Nat):Nat:=(l.take i).sum
theorem d34: ∀(css:List (List Value)),css.flatten.length=(css.map List.length).sum
 | []=>rfl
 | c::css=>by simp [d34 css]
theorem c2g: ∀(css:List (List Value)) (i:Nat) (s t:List Value),css[i]? =some s -> t.length=s.length -> (css.set i t).map List.length=css.map List.length
 | [],i,s,t,h,_=>by simp at h
 | c::css,0,s,t,h,hl=>by simp at h;subst h;simp [hl]
 | c::css,i+1,s,t,h,hl=>by simp only [List.set_cons_succ,List.map_cons];rw [c2g css i s t (by simpa using h) hl]
theorem c7q {X:Cx} {place:Nat -> Option (Nat×Nat)} {sz:List Nat} (hpl: ∀i n,sz[i]? =some n -> place i=some (d84 sz i,n)): ∀(is:List Nat) (as:List U.AV) (us:List Value) (fs gs:List U.AV) (css:List (List Value)) (cells:Array Value),
  as.all u7=true -> m7 (a18 X) as us -> f1i fs is as=some gs -> is.length=as.length -> cells.toList=css.flatten -> css.map List.length=sz -> fs.map asz=sz -> m7 (fun a s=> ∃u,u.cells.toList=s /\ a18 X a u) fs css ->
  ∃css' cells',Instr.fill place cells (is.zip us)=some cells' /\ cells'.toList=css'.flatten /\ m7 (fun a s=> ∃u,u.cells.toList=s /\ a18 X a u) gs css'
 | [],as,us,fs,gs,css,cells,hp,hr,hs,hlen,hc,hz,hfz,hall=>by
   have:fs=gs:=by simpa [f1i] using hs
   subst this
   exact ⟨css,cells,rfl,hc,hall⟩
 | i::is,[],us,fs,gs,css,cells,hp,hr,hs,hlen,hc,hz,hfz,hall=>by simp at hlen
 | i::is,a::as,[],fs,gs,css,cells,hp,hr,hs,hlen,hc,hz,hfz,hall=>hr.elim
 | i::is,a::as,u::us,fs,gs,css,cells,hp,hr,hs,hlen,hc,hz,hfz,hall=>by
   simp only [f1i] at hs
   split at hs
   ·rename_i b hb
    split at hs
    ·rename_i hok
     simp only [qB] at hok
     have hsz:=qC hok.1
     simp only [List.all_cons,qB] at hp
     have hul:=b81 hp.1 (hr.1.to0 hp.1)
     obtain ⟨s,hs1,hs2⟩:=hall.get hb
     have hsl:s.length=asz b:=by
      have h1:(css.map List.length)[i]? =some s.length:=by rw [List.getElem?_map,hs1];rfl
      have h2:(fs.map asz)[i]? =some (asz b):=by rw [List.getElem?_map,hb];rfl
      rw [hz] at h1;rw [hfz,h1] at h2
      exact qH h2
     have hul2:u.cells.toList.length=s.length:=by rw [hul,hsz,hsl]
     have hszi:sz[i]? =some (asz b):=by rw [<- hfz,List.getElem?_map,hb];rfl
     have hoff:d84 sz i=(css.take i).flatten.length:=by unfold d84;rw [d34,List.map_take,hz]
     have hcs:cells.size=css.flatten.length:=by rw [<- hc];simp
     have hbound:(css.take i).flatten.length+s.length <= css.flatten.length:=by
      have:=b10 css i s s hs1 rfl
      have h2:=congrArg List.length this
      have h3:(css.set i s)=css:=by
       apply List.ext_getElem?
       intro k
       rw [List.getElem?_set]
       split
       ·rename_i hk;subst hk
        have:=(qD.1 hs1)
        simp [this.1,this.2]
       ·rfl
      rw [h3] at h2
      have h4:(css.take i).flatten.length <= css.flatten.length:=by
       conv=>rhs;rw [<- List.take_append_drop i css,List.flatten_append,qL]
       omega
      simp only [qL,List.length_take,List.length_drop] at h2
      omega
     have husz:u.cells.size=asz b:=by rw [<- hsl,<- hul2];simp
     have hfill:=d7d (d84 sz i) u.cells cells (by rw [hoff,hcs,husz,<- hsl];exact hbound)
     obtain ⟨css',cells',h1,h2,h3⟩:=c7q hpl is as us (fs.set i a) gs (css.set i u.cells.toList) (u.cells.zipIdx.foldl (fun cs (c,j)=>cs.setIfInBounds (d84 sz i+j) c) cells)
      hp.2 hr.2 hs (by simpa using hlen) (by rw [hfill,b10 css i s _ hs1 hul2,hc,hoff]) (by rw [c2g css i s _ hs1 hul2,hz])
      (by rw [<- hfz];apply List.ext_getElem?; intro k;rw [List.getElem?_map,List.getElem?_set,List.getElem?_map];split
          ·rename_i hk;subst hk
           have hlt:=(qD.1 hb).1
           rw [if_pos hlt,hb];simp [hsz]
          ·rfl)
      (b5x i a _ hall ⟨u,rfl,hr.1⟩)
     refine ⟨css',cells',?_,h2,h3⟩
     simp only [List.zip_cons_cons,Instr.fill,hpl i _ hszi,husz]
     have hno: ¬(asz b≠asz b \/ d84 sz i+asz b>cells.size):=by
      rintro (h4 | h4)
      ·exact h4 rfl
      ·rw [hoff,hcs,<- hsl] at h4;omega
     simp only [hno,if_false,decide_false,qM,Bool.or_false,ne_eq,not_true_eq_false,false_or,gt_iff_lt] at*
     first
      | exact h1
      | (rw [if_neg (by simpa using hno)];exact h1)
    ·cases hs
   ·cases hs
theorem b9i {α β:Type} {f:α -> Sem β} {gg:α -> β}: ∀{l:List α},(∀x∈l,(f x).run P w= .ok (gg x) w) -> (l.mapM f).run P w= .ok (l.map gg) w
 | [],_=>by simp
 | x::l,h=>by
   rw [List.mapM_cons]
   simp [h x (by simp),b9i (l:=l) fun y hy=>h y (by simp [hy])]
theorem d2s {α β:Type} {f:α -> Sem β} {gg:α -> β} {l:Array α} (h: ∀x∈l.toList,(f x).run P w= .ok (gg x) w):(l.mapM f).run P w= .ok (l.map gg) w:=by
 rw [Array.mapM_eq_mapM_toList]
 simp [b9i h]
 apply Array.ext'
 simp
theorem c6p {c:U.C} {fs:List Field} (h:c7l P c fs=true):fs.length=(U.lay c).length /\ ∀i f,fs[i]? =some f -> ∃o,(U.lay c)[i]? =some o /\ f.offset=off c i /\ d5f P f.type (osz o)=true:=by
 unfold c7l at h
 simp only [qB] at h
 have hl:=qC h.1
 refine ⟨hl,fun i f hf=> ?_⟩
 have hi:i<fs.length:=(qD.1 hf).1
 have h2:=List.all_eq_true.1 h.2 i (by simpa using hi)
 rw [hf] at h2
 cases ho:(U.lay c)[i]? with
 | none=>rw [ho] at h2;cases h2
 | some o=>
   rw [ho] at h2
   simp only [qB] at h2
   exact ⟨o,rfl,qC h2.1,h2.2⟩
theorem c6f (l:List (Nat×Operand)):(l.toArray.map fun (i,x)=>(i,ev ρ x)).toList=(l.map (·.1)).zip ((l.map (·.2)).map (ev ρ)):=by
 induction l with
 | nil=>simp
 | cons q l ih=>simp at ih ⊢; exact ih
theorem d2k {X:Cx}: ∀{zs:List U.AV} {css:List (List Value)},m7 (FV X) zs css -> css.map List.length=zs.map asz
 | [],[],_=>rfl
 | a::zs,s::css,h=>by simp only [List.map_cons,h.1.1,d2k h.2]
 | [],_::_,h=>h.elim
 | _::_,[],h=>h.elim
theorem d6r (hU:UOK U) (h:Rel E Z π σ ρ w) {t:TypeId} {psr:Array (Nat×Operand)} {as:List U.AV} (hx:m7 (AVR (cx Z π σ w)) as ((psr.toList.map (·.2)).map (ev ρ))) (hev:(d8q P t (psr.toList.map (·.1)) as).Ev σ m0 m v ws):
  a39 P E σ ρ w ⟨d,.build t psr,ty,ps,af,g⟩ v ws:=by
 unfold d8q at hev
 split at hev
 case h_2=>exact hev.elim
 rename_i fs c zv hu hc hz
 split at hev
 case h_2=>exact hev.elim
 rename_i c' zs hzs
 split at hev
 case h_2=>exact hev.elim
 rename_i hfo
 obtain ⟨as',fz,m1,hev,_,hfz,_,hrep⟩:=b9p hU h hx hev
 have hrep:=hrep fz hfz fun q hq=>⟨hq,d75 hq⟩
 split at hev
 case h_2=>exact hev.elim
 rename_i gs hpl hset
 split at hev
 case h_2=>exact hev.elim
 rename_i yv hmk
 obtain ⟨hm1,hv0,hws⟩:=hev
 subst hv0
 rw [hws]
 have h1:=h.freeze hfz
 refine b4e (ws:=[]) h hfz ?_
 have hrep1:=b34 (b4o (List.all_eq_true.2 fun a ha=>by
  have:=List.all_eq_true.1 hpl a ha
  cases a<;>first | exact this | cases this)) hrep
 unfold b3o at hz
 split at hz
 case h_2=>cases hz
 rename_i ti hti
 split at hz
 case h_2=>cases hz
 rename_i z0 hz0
 obtain ⟨uz,huz,hrz⟩:=b53 hU (X:=cx (Zf Z π σ fz) π (σ.app none .unk fz) w) _ _ _ _ hz
 have hzf: ∃css,m7 (FV (cx (Zf Z π σ fz) π (σ.app none .unk fz) w)) zs css /\ uz.cells.toList=css.flatten /\ zs.map u9=U.lay c':=by
  cases zv<;>try (cases hzs;done)
  ·cases hzs
   obtain ⟨cs,rfl,hrz⟩:=hrz
   obtain ⟨hl,css,rfl,hall⟩:=a73.1 hrz
   exact ⟨css,b83 hU hall,by simp [Value.cells],hU.lay _ _⟩
  ·cases hzs
   obtain ⟨css,rfl,hlay,hpp,hr⟩:=hrz
   exact ⟨css,c0k hpp hr,by simp [Value.cells],hlay⟩
 obtain ⟨css,hall,hcs,hlay⟩:=hzf
 obtain ⟨hfl,hff⟩:=c6p hfo
 have hsz:zs.map asz=(U.lay c').map osz:=by rw [<- hlay,List.map_map];exact List.map_congr_left fun a _=>(a8m a).symm
 have hcl:css.map List.length=(U.lay c').map osz:=by
  rw [<- hsz]
  exact d2k hall
 have hplace: ∀i n,((U.lay c').map osz)[i]? =some n -> ((fs.map fun f=>(f.offset,szT P f.type))[i]? :Option (Nat×Nat))=some (d84 ((U.lay c').map osz) i,n):=by
  intro i n hi
  rw [List.getElem?_map] at hi
  cases ho:(U.lay c')[i]? with
  | none=>rw [ho] at hi;cases hi
  | some o=>
    rw [ho] at hi
    have hn:osz o=n:=qH hi
    have hlt:i<fs.toList.length:=by rw [hfl];exact (qD.1 ho).1
    obtain ⟨o',ho',h2,h3⟩:=hff i fs.toList[i] (qG hlt)
    rw [ho] at ho'
    cases ho'
    have hlt':i<fs.size:=by simpa using hlt
    have h4:=a7g h3
    simp only [Array.getElem?_map,Array.getElem?_eq_getElem hlt',Option.map_some]
    have e1:fs.toList[i]=fs[i]:=by simp
    rw [e1] at h2 h4
    rw [h2]
    have e2:szT P fs[i].type=osz o:=by
     unfold szT
     cases hi2:P.info? fs[i].type with
     | none=>rw [hi2] at h4;cases h4
     | some q=>rw [hi2] at h4;exact qH h4
    rw [e2,hn]
    unfold d84 off
    rw [List.map_take]
 have huz':z0.cells.toList=css.flatten:=by rw [<- huz];exact hcs
 obtain ⟨css',cells',hfill,hcells,hall'⟩:=c7q (X:=cx (Zf Z π σ fz) π (σ.app none .unk fz) w) hplace (psr.toList.map (·.1)) as' _ zs gs css z0.cells hpl hrep1 hset (by rw [m7.length hrep1];simp) huz' hcl hsz (hall.mono fun a s hh=>hh.2)
 refine d9 h1 (v:= .agg cells') ?_ (AVR.of1 (by have h9:=d36 hU hmk hall';rw [<- hcells] at h9;simpa using h9))
 refine d85 (vs:=(psr.map fun (i,x)=>(i,ev ρ x))) rfl ?_
 have hze:psr=psr.toList.toArray:=by simp
 have hpe:(psr.map fun (i,x)=>(i,ev ρ x)).toList=(psr.toList.map (·.1)).zip ((psr.toList.map (·.2)).map (ev ρ)):=by
  conv=>lhs;rw [hze]
  exact c6f _
 have hmap:(fs.mapM fun f=>do pure (f.offset,<- sizeOf f.type):Sem (Array (Nat×Nat))).run P w= .ok (fs.map fun f=>(f.offset,szT P f.type)) w:=by
  refine d2s fun f hf=> ?_
  obtain ⟨i,hi,rfl⟩:=List.getElem_of_mem hf
  obtain ⟨o,_,_,h3⟩:=hff i _ (qG hi)
  have h4:=a7g h3
  have e2:szT P fs.toList[i].type=osz o:=by
   unfold szT
   cases hi2:P.info? fs.toList[i].type with
   | none=>rw [hi2] at h4;cases h4
   | some q=>rw [hi2] at h4;exact qH h4
  rw [Sem.run_bind,b19 h3,<- e2];rfl
 have hzv:(zeroValue t).run P w= .ok z0 w:=by simp [zeroValue,typeInfo,hti,hz0]
 unfold Instr.build
 rw [Sem.run_bind,hzv]
 simp only [Result.andThen_ok]
 rw [Sem.run_bind,b1u hu]
 simp only [Result.andThen_ok]
 rw [Sem.run_bind,hmap]
 simp only [Result.andThen_ok,hpe]
 rw [show (fun x:Nat=>(fs.map fun f=>(f.offset,szT P f.type))[x]?)=getElem? (fs.map fun f=>(f.offset,szT P f.type)) from rfl,hfill]
 rfl
theorem e2w (m k:Nat): ∀(i:Nat),i <= m -> d84 (List.replicate m k) i=i*k:=by
 intro i hi
 unfold d84
 rw [List.take_replicate,Nat.min_eq_left hi]
 simp
theorem d2j (hU:UOK U) (h:Rel E Z π σ ρ w) {t:TypeId} {psr:Array (Nat×Operand)} {as:List U.AV} (hx:m7 (AVR (cx Z π σ w)) as ((psr.toList.map (·.2)).map (ev ρ))) (hev:(d14 P t (psr.toList.map (·.1)) as).Ev σ m0 m v ws):
  a39 P E σ ρ w ⟨d,.build t psr,ty,ps,af,g⟩ v ws:=by
 unfold d14 at hev
 split at hev
 case h_2=>exact hev.elim
 rename_i c zv hz
 split at hev
 case h_2=>exact hev.elim
 rename_i hok
 obtain ⟨as',fz,m1,hev,_,hfz,_,hrep⟩:=b9p hU h hx hev
 have hrep:=hrep fz hfz fun q hq=>⟨hq,d75 hq⟩
 split at hev
 case h_2=>exact hev.elim
 rename_i gs hpl hset
 split at hev
 case h_2=>exact hev.elim
 rename_i yv hmk
 obtain ⟨hm1,hv0,hws⟩:=hev
 subst hv0
 rw [hws]
 have h1:=h.freeze hfz
 refine b4e (ws:=[]) h hfz ?_
 have hrep1:=b34 (b4o (List.all_eq_true.2 fun a ha=>by
  have:=List.all_eq_true.1 hpl a ha
  cases a<;>first | exact this | cases this)) hrep
 unfold b3o at hz
 split at hz
 case h_2=>cases hz
 rename_i ti hti
 split at hz
 case h_2=>cases hz
 rename_i z0 hz0
 obtain ⟨uz,huz,hrz⟩:=b53 hU (X:=cx (Zf Z π σ fz) π (σ.app none .unk fz) w) _ _ _ _ hz
 obtain ⟨cs,rfl,hrz⟩:=hrz
 obtain ⟨hl,css,rfl,hall⟩:=a73.1 hrz
 unfold c4c at hok
 split at hok
 case h_2=>cases hok
 rename_i n e hu
 simp only [qB] at hok
 obtain ⟨⟨hA,hmn⟩,he2⟩:=hok
 have hmn:=qC hmn
 have hall2:=b83 hU (X:=cx (Zf Z π σ fz) π (σ.app none .unk fz) w) hall
 have hsz:(U.flds c zv).map asz=List.replicate n (U.n (U.ae c)):=by
  rw [(hU.arr c zv hA).1,List.map_map,hmn,<- (hU.arr c zv hA).2]
  apply List.ext_getElem?
  intro k
  rw [List.getElem?_map,List.getElem?_replicate]
  cases hk:(U.al c zv)[k]? with
  | none=>
    have:=List.getElem?_eq_none_iff.1 hk
    rw [if_neg (by omega)];rfl
  | some q=>
    have:=(qD.1 hk).1
    rw [if_pos this]
    simp [(a15 hU (U.ae c) q).2.2]
 have hcl:css.map List.length=List.replicate n (U.n (U.ae c)):=by rw [<- hsz];exact d2k hall2
 have hplace: ∀i k,(List.replicate n (U.n (U.ae c)))[i]? =some k -> (fun i=>some (i*U.n (U.ae c),U.n (U.ae c)):Nat -> Option (Nat×Nat)) i=some (d84 (List.replicate n (U.n (U.ae c))) i,k):=by
  intro i k hi
  rw [List.getElem?_replicate] at hi
  split at hi
  ·rename_i hlt
   cases hi
   rw [e2w n _ i (Nat.le_of_lt hlt)]
  ·cases hi
 have huz':z0.cells.toList=css.flatten:=by rw [<- huz];simp [Value.cells]
 obtain ⟨css',cells',hfill,hcells,hall'⟩:=c7q (X:=cx (Zf Z π σ fz) π (σ.app none .unk fz) w) hplace (psr.toList.map (·.1)) as' _ (U.flds c zv) gs css z0.cells hpl hrep1 hset (by rw [m7.length hrep1];simp) huz' hcl hsz (hall2.mono fun a s hh=>hh.2)
 refine d9 h1 (v:= .agg cells') ?_ (AVR.of1 ⟨cells'.toList,by simp,by rw [hcells];exact c60 hU hmk hall'⟩)
 refine d85 (vs:=(psr.map fun (i,x)=>(i,ev ρ x))) rfl ?_
 have hze:psr=psr.toList.toArray:=by simp
 have hpe:(psr.map fun (i,x)=>(i,ev ρ x)).toList=(psr.toList.map (·.1)).zip ((psr.toList.map (·.2)).map (ev ρ)):=by
  conv=>lhs;rw [hze]
  exact c6f _
 have hzv:(zeroValue t).run P w= .ok z0 w:=by simp [zeroValue,typeInfo,hti,hz0]
 unfold Instr.build
 rw [Sem.run_bind,hzv]
 simp only [Result.andThen_ok]
 rw [Sem.run_bind,b1u hu]
 simp only [Result.andThen_ok]
 rw [Sem.run_bind,b19 he2]
 simp only [Result.andThen_ok,hpe]
 rw [hfill]
 rfl
theorem d2t {X:Cx} {gg:TypeId -> U.AV -> U.AV -> Option Bool} {d:Nat} (hg: ∀t a b r,gg t a b=some r -> ∀u v,a18 X a u -> a18 X b v -> (Op.equalIn d t u v).run P w= .ok r w): ∀(fs:List Field) (o:Nat) (as bs:List U.AV) (r:Bool) (pa pb:List Value) (ca cb:List (List Value)),f6h P gg o fs as bs=some r -> pa.length=o -> pb.length=o -> m7 (FV X) as ca -> m7 (FV X) bs cb ->
  (Op.eqFields d (pa++ca.flatten).toArray (pb++cb.flatten).toArray fs).run P w= .ok r w
 | [],o,as,bs,r,pa,pb,ca,cb,h,_,_,_,_=>by
   have hr:r=true:=by
    cases as<;>cases bs<;>first
     | (cases h;rfl)
     | cases h
   subst hr
   exact e8w rfl
 | f::fs,o,as,bs,r,pa,pb,ca,cb,h,hpa,hpb,ha,hb=>by
   cases as with
   | nil=>cases h
   | cons a as=>cases bs with
     | nil=>cases h
     | cons b bs=>cases ca with
       | nil=>exact ha.elim
       | cons sa ca=>cases cb with
         | nil=>exact hb.elim
         | cons sb cb=>
           simp only [f6h] at h
           split at h
           case h_2=>cases h
           rename_i hc
           simp only [qB,bne_iff_ne,ne_eq] at hc
           obtain ⟨hn,ho,hfa,hfb,hp,hq,hsz⟩:=hc
           have ho:=qC ho
           have hsz:=qC hsz
           split at h
           case h_2=>cases h
           rename_i r1 hr1
           split at h
           case h_2=>cases h
           rename_i q hq2
           cases h
           obtain ⟨hla,ua,hua,hra⟩:=ha.1
           obtain ⟨hlb,ub,hub,hrb⟩:=hb.1
           have pt: ∀{x:U.AV} {px sx:List Value} {cx:List (List Value)} {ux:Value},b0e P f.type x=true -> u7 x=true -> px.length=o -> sx.length=asz x -> ux.cells.toList=sx -> a18 X x ux -> (part f.type (px++(sx::cx).flatten).toArray f.offset).run P w= .ok ux w:=by
            intro x px sx cx ux hf hpx hl hs hu hr
            refine e12 (X:=X) hf hpx (hr.to0 hpx) ?_ ?_
            ·rw [ho,<- hl,List.drop_left,List.flatten_cons,<- hs,List.take_left,hu]
            ·rw [ho];simp [hl,hs]
           refine e5l (off:=f.offset) (t:=f.type) ?_ (pt hfa hp hpa hla hua hra) (pt hfb hq hpb hlb hub hrb) (hg _ _ _ _ hr1 _ _ hra hrb) ?_
           ·have:(f.name != "_")=true:=by simpa using hn
            simp [this]
           ·have e1:pa++(sa::ca).flatten=(pa++sa)++ca.flatten:=by simp
            have e2:pb++(sb::cb).flatten=(pb++sb)++cb.flatten:=by simp
            rw [e1,e2]
            exact d2t hg fs (o+asz a) as bs q _ _ ca cb hq2 (by simp [hpa,hla]) (by simp [hpb,hlb,hsz]) ha.2 hb.2
theorem e1z (hU:UOK U) {X:Cx}: ∀(n:Nat) (t:TypeId) (a b:U.AV) (r:Bool),eqA P n t a b=some r -> ∀(u v:Value) (d:Nat),a18 X a u -> a18 X b v -> (Op.equalIn (d+n) t u v).run P w= .ok r w
 | 0,_,_,_,_,h,_,_,_,_,_=>by cases h
 | n+1,t,a,b,r,h,u,v,d,ha,hb=>by
   simp only [eqA] at h
   split at h
   ·split at h
    ·rename_i k x k' y kk ht hk
     cases h
     unfold eqK at hk
     split at hk
     ·rename_i he _
      subst he
      have hu:u= .int _ _:=ha
      have hv:v= .int _ _:=hb
      rw [hu,hv]
      exact run_equalIn_int w _ _ _ _ _ _ ht
     ·cases hk
    ·cases h
   ·split at h
    ·rename_i ht
     cases h
     have hu:u= .bool _:=ha
     have hv:v= .bool _:=hb
     rw [hu,hv]
     exact run_equalIn_bool' w _ _ _ _ ht
    ·cases h
   ·split at h
    ·rename_i ht
     cases h
     have hu:u= .string _:=ha
     have hv:v= .string _:=hb
     rw [hu,hv]
     exact run_equalIn_string w _ _ _ _ ht
    ·cases h
   ·split at h
    case h_2=>cases h
    rename_i ca as cb bs hfa hfb
    split at h
    case h_2=>cases h
    rename_i fs ht hst
    have parts: ∀{x:U.AV} {c:U.C} {xs:List U.AV} {ux:Value},e33 x=some (c,xs) -> a18 X x ux -> ∃css,ux= .agg css.flatten.toArray /\ m7 (FV X) xs css:=by
     intro x c xs ux hx hr
     cases x<;>try (cases hx;done)
     ·cases hx
      obtain ⟨cs,hu,hr⟩:=hr
      obtain ⟨_,css,hcs,hall⟩:=a73.1 hr
      exact ⟨css,by rw [hu,hcs],b83 hU hall⟩
     ·cases hx
      obtain ⟨css,hu,_,hp,hr⟩:=hr
      exact ⟨css,hu,c0k hp hr⟩
    obtain ⟨c1,hu,h1⟩:=parts hfa ha
    obtain ⟨c2,hv,h2⟩:=parts hfb hb
    have hfo:P.fieldsOf t=fs:=by simp [Program.fieldsOf,ht]
    rw [hu,hv,show d+(n+1)=(d+n)+1 from rfl,run_equalIn_agg w (d+n) t _ _ (by rw [hfo];exact ht) hst,hfo]
    have:=d2t (P:=P) (w:=w) (X:=X) (d:=d+n) (fun t a b r hr u v hu hv=>e1z hU n t a b r hr u v d hu hv) fs.toList 0 as bs r [] [] c1 c2 h rfl rfl h1 h2
    simpa using this
theorem e3r (hU:UOK U) (h:Rel E Z π σ ρ w) {op:BinOp} {t t':TypeId} (hv:(a6c a&&a6c b)=true) (hx:AVR (cx Z π σ w) a (ev ρ x)) (hy:AVR (cx Z π σ w) b (ev ρ y)) (hev:(f8k P op t a b).Ev σ m0 m v ws):
  a39 P E σ ρ w ⟨d,.binOp op t x y t',ty,ps,af,g⟩ v ws:=by
 simp only [qB] at hv
 have agg: ∀{q:U.AV} {uq:Value},a6c q=true -> AVR (cx Z π σ w) q uq -> a18 (cx Z π σ w) q uq /\ ∃xs,uq= .agg xs:=by
  intro q uq hq hr
  cases q<;>try (cases hq;done)
  ·obtain ⟨cs,hu,hr⟩:=hr;exact ⟨⟨cs,hu,hr⟩,_,hu⟩
  ·obtain ⟨css,hu,hr⟩:=hr;exact ⟨⟨css,hu,hr⟩,_,hu⟩
 obtain ⟨hx1,xs,hxs⟩:=agg hv.1 hx
 obtain ⟨hy1,ys,hys⟩:=agg hv.2 hy
 unfold f8k at hev
 split at hev
 case h_2=>exact hev.elim
 rename_i r hg he
 have hrun:=e1z hU (w:=w) 100 t a b r he _ _ 9900 hx1 hy1
 rw [hxs,hys] at hrun
 split at hev
 ·obtain ⟨_,rfl,rfl⟩:=hev
  exact d9 h (f7k hxs hys hg hrun rfl) rfl
 ·obtain ⟨_,rfl,rfl⟩:=hev
  exact d9 h (f6p hxs hys hg hrun rfl) rfl
 ·exact hev.elim
end
end Go.SX
namespace Go.SX
open Go Go.PL
section
variable {P:Program} {U:Uni} {E:Env} {Z:Nat -> Prop} {π:Nat -> Value} {σ:U.St} {ρ:Nat -> Value} {w:World}
variable {d:Option Tmp} {ty:TypeId} {ps:String} {af:Array Edge} {g:Option (Nat×Bool)} {x y z:Operand} {m0 m:Nat} {a b v:U.AV} {ws:List (Nat×U.MC)} {fr:Nat}
theorem c4l {n:Nat} (hn:0<n): ∀(vs:List Value) (k:Nat),(∀v∈vs,v.cells.size=n) -> (vs.flatMap fun v=>v.cells.toList)[k]? =(vs[k/n]?).bind fun v=>v.cells[k%n]?
 | [],k,_=>by simp
 | v::vs,k,h=>by
   have hv:=h v (by simp)
   have ih:=c4l hn vs (k-n) fun u hu=>h u (by simp [hu])
   rw [List.flatMap_cons,List.getElem?_append]
   have hl:v.cells.toList.length=n:=by simpa using hv
   by_cases hk:k<n
   ·rw [if_pos (by omega),Nat.div_eq_of_lt hk,Nat.mod_eq_of_lt hk]
    simp
   ·rw [if_neg (by omega),hl,ih]
    have e1:k/n=(k-n)/n+1:=by rw [Nat.div_eq_sub_div hn (by omega)]
    have e2:(k-n)%n=k%n:=(Nat.mod_eq_sub_mod (by omega)).symm
    rw [e1,List.getElem?_cons_succ,e2]
theorem c9n: ∀(is:List Nat) (k:Nat) (us:List Value),c7g k is=true -> is.length=us.length -> is.zip us=(us.zipIdx k).map fun x=>(x.2,x.1)
 | [],k,[],_,_=>rfl
 | i::is,k,u::us,h,hl=>by
   simp only [c7g,qB] at h
   have:=qC h.1
   subst this
   simp [c9n is (i+1) us h.2 (by simpa using hl)]
 | [],_,_::_,_,hl=>by simp at hl
 | _::_,_,[],_,hl=>by simp at hl
theorem d4a (hU:UOK U) {X:Cx} {c:U.C}: ∀{as:List U.AV} {us:List Value} {l:List (U.T c)},f6d c as=some l -> m7 (a18 X) as us -> m7 (fun u x=>(Rp c).rep X.G X.w u.cells.toList x) us l
 | [],[],l,h,_=>by cases h;trivial
 | a::as,u::us,l,h,hr=>by
   simp only [f6d] at h
   split at h
   ·rename_i xv hx
    split at h
    ·rename_i l' hl
     cases h
     exact ⟨b3t hU hx hr.1,d4a hU hl hr.2⟩
    ·cases h
   ·cases h
 | [],_::_,_,_,hh=>hh.elim
 | _::_,[],_,_,hh=>hh.elim
def e8b {G:Nat -> Prop} {w:World} {c:U.C}: ∀(us:List Value) (l:List (U.T c)),m7 (fun u x=>(Rp c).rep G w u.cells.toList x) us l -> List (Raw (U.n c))
 | [],[],_=>[]
 | u::us,x::l,h=>c45 h.1::e8b us l h.2
 | [],_::_,h=>h.elim
 | _::_,[],h=>h.elim
theorem c9r {G:Nat -> Prop} {w:World} {c:U.C}: ∀(us:List Value) (l:List (U.T c)) (h:m7 (fun u x=>(Rp c).rep G w u.cells.toList x) us l),(e8b us l h).flatMap Subtype.val=us.flatMap (fun v=>v.cells.toList) /\ m7 (fun (r:Raw (U.n c)) x=>(Rp c).rep G w r.1 x) (e8b us l h) l /\ (e8b us l h).length=us.length
 | [],[],_=>⟨rfl,trivial,rfl⟩
 | u::us,x::l,h=>by
   obtain ⟨h1,h2,h3⟩:=c9r us l h.2
   exact ⟨by simp [e8b,h1,c45],⟨h.1,h2⟩,by simp [e8b,h3]⟩
 | [],_::_,h=>h.elim
 | _::_,[],h=>h.elim
theorem a9r {fr:Nat} {k:U.Q} (hev:(Q.rdM fr fun | .never=>k | _=>(.fail:U.Q)).Ev σ m0 m v ws):σ.mem fr= .never /\ ∃m1,k.Ev σ m1 m v ws:=by
 have hev:(match σ.mem fr with | .never=>k | _=>(.fail:U.Q)).Ev σ _ m v ws:=hev
 split at hev
 ·rename_i h;exact ⟨h,_,hev⟩
 ·exact hev.elim
theorem d8o {fz:List (Nat×U.MC)} (hf:FZ σ fz) (hn:σ.mem fr= .never):(σ.app none .unk fz).mem fr= .never:=by
 rw [m5]
 cases hl:lk fr fz with
 | none=>exact hn
 | some m=>obtain ⟨e,c,l,h1,_⟩:=d7i hf hl;rw [hn] at h1;cases h1
theorem b69 {e n:Nat} (h:d06 P e n=true): ∃ie zv,P.info? e=some ie /\ ie.zero=some zv /\ zv.cells.size=n /\ ie.size=n /\ 0<n /\ 0<ie.bytes:=by
 unfold d06 at h
 split at h
 ·rename_i ie hie
  split at h
  ·rename_i zv hz
   simp only [qB,decide_eq_true_eq] at h
   exact ⟨ie,zv,hie,hz,qC h.1.1.1,qC h.1.1.2,h.1.2,h.2⟩
  ·cases h
 ·cases h
theorem c3m (hU:UOK U) (h:Rel E Z π σ ρ w) {t:TypeId} {len:Nat} {psr:Array (Nat×Operand)} {as:List U.AV} (hx:m7 (AVR (cx Z π σ w)) as ((psr.toList.map (·.2)).map (ev ρ))) (hev:(b75 P fr t len (psr.toList.map (·.1)) as).Ev σ m0 m v ws):
  a39 P E σ ρ w ⟨d,.buildSlice t len psr,ty,ps,af,g⟩ v ws:=by
 unfold b75 at hev
 split at hev
 case h_2=>exact hev.elim
 rename_i e hu
 split at hev
 case h_2=>exact hev.elim
 rename_i c hc
 split at hev
 case h_2=>exact hev.elim
 rename_i hok
 obtain ⟨as',fz,m1,hev,_,hfz,_,hrep⟩:=b9p hU h hx hev
 have hrep:=hrep fz hfz fun q hq=>⟨hq,d75 hq⟩
 split at hev
 case h_2=>exact hev.elim
 rename_i l hpl hpr
 obtain ⟨hn,m2,hm1,hv0,hws⟩:=a9r hev
 subst hv0
 rw [hws]
 simp only [qB] at hok
 obtain ⟨⟨⟨⟨⟨⟨h1,h2⟩,h3⟩,h4⟩,h5⟩,h6⟩,h7⟩:=hok
 have h2:=qC h2
 have h3:=qC h3
 have h5:=Nat.le_of_ble_eq_true h5
 have h6:=Nat.le_of_ble_eq_true h6
 obtain ⟨e',he1,he2,he3,he4⟩:=a90 h4
 rw [hu] at he1
 cases he1
 have hR:=h.freeze hfz
 refine b4e (ws:=[(fr,.sl e c l)]) h hfz ?_
 have hrep1:=b34 (b4o hpl) hrep
 have hus:=d4a hU hpr hrep1
 obtain ⟨g1,g2,g3⟩:=c9r _ _ hus
 have hsz: ∀v∈(psr.toList.map (·.2)).map (ev ρ),v.cells.size=U.n c:=by
  intro v hv
  obtain ⟨i,hi,rfl⟩:=List.getElem_of_mem hv
  obtain ⟨xv,_,hxr⟩:=hus.get (qG hi)
  have:=(Rp c).len hxr
  rw [Rp_n] at this
  rw [<- this];simp
 have hlen:((psr.toList.map (·.2)).map (ev ρ)).length=len:=by rw [<- h2];simp
 have hpe:(psr.map fun (i,x)=>(i,ev ρ x)).toList=(((psr.toList.map (·.2)).map (ev ρ)).zipIdx 0).map fun x=>(x.2,x.1):=by
  have hze:psr=psr.toList.toArray:=by simp
  conv=>lhs;rw [hze]
  rw [c6f,c9n _ 0 _ h1 (by rw [hlen,h2])]
 obtain ⟨css,hcss⟩: ∃css,css=e8b _ _ hus:=⟨_,rfl⟩
 rw [<- hcss] at g1 g2 g3
 have hrun: ∃cells:Array Value,cells.toList=css.flatMap Subtype.val /\ (Instr.buildSlice t len (psr.map fun (i,x)=>(i,ev ρ x))).run P w= .ok (.slice (some ⟨w.heap.size,0,none⟩) len len) (w.alloc (.cells cells e)):=by
  obtain ⟨ie,zv,hie,hz,hzs,hsz1,_,_⟩:=b69 h7
  have hsm: ¬len*ie.size>2^24:=by rw [hsz1];omega
  have hin:((Array.range (len*ie.size)).map (zv.cells[· %zv.cells.size]!)).size=len*ie.size:=by simp
  obtain ⟨r,hr,hrs,hrk⟩:=Great.fill_dense he4 ((psr.toList.map (·.2)).map (ev ρ)) 0 ((Array.range (len*ie.size)).map (zv.cells[· %zv.cells.size]!)) hsz (by rw [hin,hlen,hsz1,Nat.zero_add];exact Nat.le_refl _)
  refine ⟨r,?_,?_⟩
  case refine_2=>
   by_cases hpos:len*ie.size=0
   ·have hl0:len=0:=by
     rcases Nat.mul_eq_zero.1 hpos with h0 | h0
     ·exact h0
     ·rw [hsz1] at h0;exact absurd h0 (Nat.ne_of_gt he4)
    subst hl0
    have hnil:psr.toList=[]:=by
     have:=h2;rw [List.length_map] at this;exact List.length_eq_zero_iff.1 this
    have hps:psr= #[]:=by rw [<- Array.toList_eq_nil_iff];exact hnil
    subst hps
    have hr0:r= #[]:=by
     have:=hrs
     rw [hin,Nat.zero_mul] at this
     exact Array.eq_empty_of_size_eq_zero this
    subst hr0
    simp [Instr.buildSlice,run_underlying hu,sizeOf,typeInfo,zeroValue,hie,hz,newRow,Instr.fill]
    rw [show∀f:Nat -> Value,Array.map f (Array.range 0)= #[] from fun f=>Array.eq_empty_of_size_eq_zero (by simp)]
   ·exact run_buildSlice w t e len _ r ie zv hu hie hz hsm hpos (by rw [hpe,hsz1];rw [hsz1] at hr;exact hr)
  apply List.ext_getElem?
  intro k
  rw [Array.getElem?_toList,hrk k,g1,c4l he4 _ _ hsz,hlen]
  simp only [Nat.zero_mul,Nat.zero_add,Nat.zero_le,true_and,Nat.sub_zero]
  split
  ·rfl
  ·rename_i hk
   rw [Array.getElem?_eq_none (by rw [hin,hsz1];omega)]
   have:((psr.toList.map (·.2)).map (ev ρ))[k/U.n c]? =none:=by
    apply List.getElem?_eq_none
    rw [hlen]
    exact (Nat.le_div_iff_mul_le he4).2 (by omega)
   rw [this];rfl
 obtain ⟨cells,hc1,hc2⟩:=hrun
 refine a9a hR (obj:= .cells cells e) (v':= .slice (some ⟨w.heap.size,0,none⟩) len len) (d8o hfz hn) (by simp [execOp,hc2]) (fun h=>by cases h) rfl rfl (fun b hb=>hb) ?_
 rintro X' hle hw hZ
 refine ⟨css,?_,g2.mono fun r xv hh=>b8h hle hh⟩
 have hcl:cells=(css.flatMap Subtype.val).toArray:=by rw [<- hc1]
 have hM:Mb (w.alloc (.cells cells e)) w.heap.size e (css.flatMap Subtype.val):=by rw [hcl];exact Mb.alloc w e _
 rw [hw]
 exact hM.own (B:=0) (Nat.zero_le _) (by rw [g3,hlen]) (by unfold maxLen;omega) (fun r=>r.2.1)
end
end Go.SX
namespace Go.SX
open Go Go.PL
section
variable {P:Program} {U:Uni} {E:Env} {Z:Nat -> Prop} {π:Nat -> Value} {σ:U.St} {ρ:Nat -> Value} {w:World}
variable {d:Option Tmp} {ty:TypeId} {ps:String} {af:Array Edge} {g:Option (Nat×Bool)} {x y z:Operand} {m0 m:Nat} {a b v:U.AV} {ws:List (Nat×U.MC)} {fr:Nat}
def d7e (X:Cx) {c:U.C} (u:Value) (l:List (U.T c)):Prop:= ∃(css:List (Raw (U.n c))),(∃G,j5 (RAW (U.n c)) G X.w u css) /\ m7 (fun (r:Raw (U.n c)) x=>(Rp c).rep X.G X.w r.1 x) css l
theorem c52 {X:Cx} {c:U.C} {u:Value} {l:List (U.T c)} (h:j5 (Rp c) X.G X.w u l):d7e X u l:=by
 obtain ⟨css,h1,h2⟩:=d8g h
 exact ⟨css,⟨_,h1⟩,h2⟩
theorem d91 {X:Cx} {e:TypeId} {c:U.C} {u:Value} {l:List (U.T c)} (h:MR X (.sl e c l) u):d7e X u l:=by
 obtain ⟨css,hO,hr⟩:=h
 exact ⟨css,⟨noG,hO.rep fun _ _ h=>h⟩,hr⟩
theorem e1n {w:World} {a:Addr} {v:Value} (h:w.cell? a=some v):a.block<w.heap.size:=by
 cases hb:w.heap[a.block]? with
 | none=>simp [World.cell?,hb] at h
 | some o=>exact (qN.1 hb).1
theorem d59 (hU:UOK U) {G:Nat -> Prop} {c:U.C} {x:U.T c} {cs:List Value} (h:d7 Rp G w (inj c x) cs):(Rp c).rep G w cs x:=by
 unfold inj at h
 cases hag:U.ag c with
 | true=>rw [hag] at h;exact h
 | false=>
   rw [hag] at h
   have hl:=hU.lay c x
   rw [hU.sc c hag] at hl
   cases hf:U.flds c x with
   | nil=>rw [hf] at hl;cases hl
   | cons a r=>
     cases r with
     | nil=>
       rw [hf] at h
       have:=c1p hU (c:=c) (x:=x) (css:=[cs]) (by rw [hf];exact ⟨h,trivial⟩)
       simpa using this
     | cons b r=>rw [hf] at hl;exact absurd (congrArg List.length hl) (by simp)
theorem e64 {G:Nat -> Prop} {c:U.C} {a:Addr}: ∀(l:List (U.T c)) (k:Nat),(∀i x,l[i]? =some x -> ∃cs,(Rp c).rep G w cs x /\ CA w (a.add ((k+i)*U.n c)) cs) ->
  ∃css:List (Raw (U.n c)),css.length=l.length /\ m7 (fun (r:Raw (U.n c)) x=>(Rp c).rep G w r.1 x) css l /\ ∀i r,css[i]? =some r -> CA w (a.add ((k+i)*U.n c)) r.1
 | [],k,_=>⟨[],rfl,trivial,fun i r h=>by simp at h⟩
 | y::l,k,hh=>by
   obtain ⟨cs,h1,h4⟩:=hh 0 y rfl
   obtain ⟨css,g1,g2,g3⟩:=e64 l (k+1) fun i x hx=>by
    have:=hh (i+1) x (by simpa using hx)
    rwa [show k+(i+1)=k+1+i by omega] at this
   refine ⟨c45 h1::css,by simp [g1],⟨h1,g2⟩,fun i r hr=> ?_⟩
   cases i with
   | zero=>simp at hr;subst hr;exact h4
   | succ i=>
     have:=g3 i r (by simpa using hr)
     rwa [show k+1+i=k+(i+1) by omega] at this
theorem e7i (hU:UOK U) (h:Rel E Z π σ ρ w) {c:U.C} {k:List (U.T c) -> U.Q} {u:Value} (hx:AVR (cx Z π σ w) a u) (hev:(rdL c a k).Ev σ m0 m v ws):
  ∃l m1,(k l).Ev σ m1 m v ws /\ d7e (cx Z π σ w) u l:=by
 have key: ∀{c':U.C} {l':List (U.T c')} {m1:Nat},(match b44 c l' with | some l=>k l | none=>(.fail:U.Q)).Ev σ m1 m v ws -> d7e (cx Z π σ w) u l' -> ∃l m1,(k l).Ev σ m1 m v ws /\ d7e (cx Z π σ w) u l:=by
  intro c' l' m1 hev hr
  split at hev
  ·rename_i l hl
   obtain ⟨he,hx⟩:=a2b (G:=noG) (w:=w) hl
   subst he
   subst hx
   exact ⟨_,_,hev,hr⟩
  ·exact hev.elim
 unfold rdL at hev
 split at hev
 ·exact key hev (c52 hx)
 ·exact ⟨[],_,hev,[],⟨noG,.inl ⟨hx,rfl⟩⟩,trivial⟩
 ·rename_i id
  have hm:=h.mem id
  have hev:(match σ.mem id with
   | .sl _ _ l=>(match b44 c l with | some l=>k l | none=> .fail)
   | .fz _ l=>(match b44 c l with | some l=>k l | none=> .fail)
   | _=>(.fail:U.Q)).Ev σ _ m v ws:=hev
  split at hev
  ·rename_i e c' l' hmem
   rw [hmem] at hm
   exact key hev (by rw [hx.2.1];exact d91 hm)
  ·rename_i c' l' hmem
   rw [hmem] at hm
   exact key hev (by rw [hx.2.1];exact c52 hm)
  ·exact hev.elim
 ·rename_i id c' p n
  have hev:(match b5c c' (σ.mem id) p with
   | true=>e6p (σ.mem id) p fun b=>(match b with
     | .val ca z=>(match U.isA ca&&Nat.beq n (U.an ca)&&Nat.ble n 1000000&&Nat.blt 0 (U.n c),b44 c (U.al ca z) with
       | true,some l=>k l
       | _,_=> .fail)
     | _=> .fail)
   | false=>(.fail:U.Q)).Ev σ _ m v ws:=hev
  obtain ⟨hus,ad,had,hok,hv⟩:=hx
  split at hev
  case h_2=>exact hev.elim
  rename_i hcm
  obtain ⟨b,hev,hloc0⟩:=d4h hU h (.inr hcm) hok hev
  have hloc:=hloc0 ad had
  clear hloc0
  split at hev
  case h_2=>exact hev.elim
  rename_i ca z
  split at hev
  case h_2=>exact hev.elim
  rename_i l hck hl
  simp only [qB] at hck
  obtain ⟨he,hx2⟩:=a2b (G:=noG) (w:=w) hl
  subst he
  subst hx2
  refine ⟨_,_,hev,?_⟩
  have hnl:(U.al ca z).length=n:=by rw [(hU.arr ca z hck.1.1.1).2];exact (qC hck.1.1.2).symm
  have hn6:n <= 1000000:=Nat.le_of_ble_eq_true hck.1.2
  have hpos:0<U.n (U.ae ca):=Nat.le_of_ble_eq_true hck.2
  obtain ⟨u,hA,hca⟩:=hloc
  have hit: ∀i (y:U.T (U.ae ca)),(U.al ca z)[i]? =some y -> ∃cs,(Rp (U.ae ca)).rep (cx Z π σ w).G w cs y /\ CA w ((ad.add (c51 c' p)).add (i*U.n (U.ae ca))) cs:=by
   intro i y hy
   have hg:c8 (U.al ca z) (i:Int)=some y:=by
    unfold c8
    rw [if_pos (Int.natCast_nonneg i),Int.toNat_natCast];exact hy
   obtain ⟨u2,h2,h3⟩:=c74 hU hck.1.1.1 hA hca hg
   refine ⟨u2.cells.toList,d59 hU (b1i (.inl (a15 hU _ _).1) h2),?_⟩
   rw [Int.toNat_natCast] at h3
   exact h3
  obtain ⟨css,g1,g2,g3⟩:=e64 (U.al ca z) 0 fun i y hy=>by
   obtain ⟨cs,q1,q2⟩:=hit i y hy
   exact ⟨cs,q1,by rw [Nat.zero_add];exact q2⟩
  refine ⟨css,⟨noG,.inr ⟨ad.add (c51 c' p),n,by rw [g1,hnl];exact hv,by rw [g1,hnl];exact Nat.le_refl _,by unfold maxLen;omega,fun i r hr=> ?_⟩⟩,g2⟩
  have hc:=g3 i r hr
  rw [Nat.zero_add] at hc
  have hlt:(ad.add (c51 c' p)).block<w.heap.size:=by
   have hne: ∃v,r.1[0]? =some v:=⟨r.1[0]'(by rw [r.2.1];exact hpos),qG _⟩
   obtain ⟨v0,hv0⟩:=hne
   have:=e1n (hc 0 v0 hv0)
   rwa [a1d,a1d] at this
  exact ⟨r.1,rfl,hlt,fun h=>h,hc⟩
 ·exact hev.elim
theorem d17 (hU:UOK U) {X:Cx} {c:U.C} (h8:U.b8 c=true) {u:Value} {l:List (U.T c)} (h:d7e X u l): ∃G,j5 u8R G X.w u (l.map (U.t8 c)):=by
 obtain ⟨css,⟨G,hR⟩,hr⟩:=h
 have hlen:=hr.length
 rcases hR with ⟨hu,hn⟩ | ⟨a,cap,hv,hc,hm,hi⟩
 ·subst hn
  cases l with
  | nil=>exact ⟨G,.inl ⟨hu,rfl⟩⟩
  | cons _ _=>cases hlen
 ·refine ⟨G,.inr ⟨a,cap,by rw [hv,List.length_map,hlen],by rw [List.length_map,<- hlen];exact hc,hm,fun i x hx=> ?_⟩⟩
  rw [List.getElem?_map] at hx
  obtain ⟨y,hy,rfl⟩:=Option.map_eq_some_iff.1 hx
  have hil:i<css.length:=by rw [hlen];exact (qD.1 hy).1
  have hri:css[i]? =some css[i]:=qG hil
  obtain ⟨y',hy',d,hd⟩:=hr.get hri
  rw [hy] at hy'
  cases hy'
  obtain ⟨cs,hcs,hb,hg,hca⟩:=hi i _ hri
  have hcs:cs=(css[i]).1:=hcs
  cases d with
  | zero=>exact hd.elim
  | succ d=>
    obtain ⟨_,ks,hk,ha⟩:=hd
    have hf:=hU.by8 c y h8
    rw [hf] at ha
    have hn:U.n c=1:=by
     have h1:=hU.lay c y
     rw [hf] at h1
     rw [hU.sum c,<- h1];rfl
    match ks,ha with
    | [k],⟨hk1,_⟩=>
      have hk1:k=[.int .u8 (U.t8 c y)]:=hk1
      subst hk1
      refine ⟨[.int .u8 (U.t8 c y)],rfl,hb,hg,?_⟩
      have e:cs=[.int .u8 (U.t8 c y)]:=by rw [hcs,hk];rfl
      rw [e] at hca
      have e2:(RAW (U.n c)).n=u8R.n:=hn
      rw [e2] at hca
      exact hca
    | [],ha=>exact ha.elim
    | _::_::_,⟨_,ha⟩=>exact ha.elim
theorem e2x (hU:UOK U) (h:Rel E Z π σ ρ w) {s t:TypeId} (hb:f0b P s t=true) (hx:AVR (cx Z π σ w) a (ev ρ x)) (hev:(f6z P s a).Ev σ m0 m v ws):
  a39 P E σ ρ w ⟨d,.convert s t x,ty,ps,af,g⟩ v ws:=by
 unfold f0b at hb
 split at hb
 case h_2=>cases hb
 rename_i e' hs ht
 unfold f6z at hev
 split at hev
 case h_2=>exact hev.elim
 rename_i e hs'
 split at hev
 case h_2=>exact hev.elim
 rename_i c he hcd
 split at hev
 case h_2=>exact hev.elim
 rename_i h8
 obtain ⟨l,m1,⟨hm,rfl,rfl⟩,hrd⟩:=e7i hU h hx hev
 obtain ⟨G,hR⟩:=d17 hU h8 hrd
 exact d9 h (f8c rfl (fun a n c w=>run_convert_bytes_string w s t e a n c hs' he ht) hR) rfl
theorem d5y (h:Rel E Z π σ ρ w) {t:TypeId} (hx:AVR (cx Z π σ w) a (ev ρ x)) (hev:(d9k P fr t a).Ev σ m0 m v ws):a39 P E σ ρ w ⟨d,.range t x,ty,ps,af,g⟩ v ws:=by
 unfold d9k at hev
 split at hev
 case h_3=>exact hev.elim
 case h_2 id=>
  split at hev
  case h_2=>exact hev.elim
  rename_i hs
  have hev:(match σ.mem id with | .mp []=>(.done .mi [(id,.dead)]:U.Q) | _=> .fail).Ev σ _ m v ws:=hev
  split at hev
  case h_2=>exact hev.elim
  rename_i hmem
  obtain ⟨_,rfl,rfl⟩:=hev
  have hm:=h.mem id
  rw [hmem] at hm
  obtain ⟨mb,hv,_,hb⟩:=hm
  have hxv:ev ρ x= .map (some mb):=by rw [hx.2.1];exact hv
  unfold e6i at hs
  split at hs
  case h_2=>cases hs
  rename_i k e hu
  have hMB:MB (σ.mem id) (π id) mb:=by rw [hmem,hv];rfl
  have hlt:mb<w.heap.size:=(h.own id mb hMB).2.1
  have hr:(execOp (ev ρ) ⟨d,.range t x,ty,ps,af,g⟩).run P w= .ok (.value (.pointer (some ⟨w.heap.size,0,none⟩))) (w.alloc (.mapIter (some mb) 0 #[] 0)):=by
   have hb':w.heap[mb]? =some (.map #[] 0):=hb
   have hg:(getObj mb).run P w= .ok (.map #[] 0) w:=by simp [getObj,Sem.run,hb']
   simp [execOp,hxv,Instr.range,run_underlying hu,hg,Result.andThen]
  unfold a39 y9
  rw [hr]
  have hid: ∀{j:Nat} {m':U.MC},lk j [(id,(.dead:U.MC))]=some m' -> j=id /\ m'= .dead:=by
   intro j m' hj
   have hj:(bif Nat.beq id j then some (MC.dead:U.MC) else none)=some m':=hj
   cases hbe:Nat.beq id j with
   | true=>rw [hbe] at hj;exact ⟨(qC hbe).symm,(qH hj).symm⟩
   | false=>rw [hbe] at hj;cases hj
  have hlk:lk id [(id,(.dead:U.MC))]=some .dead:=by
   show (bif Nat.beq id id then some _ else _)=_
   rw [show Nat.beq id id=true from Nat.beq_refl id];rfl
  refine ⟨fun b=>Z b \/ b=w.heap.size \/ b=mb,π,h.next ((Ext.alloc noG w _).mono fun _ hh=>hh.elim) (fun b hb=> .inl hb) (fun b hb=> ?_) (fun _ _=>rfl) (fun j m' hj=>by rw [(hid hj).2];intro e;cases e) (fun j m' hj=>by rw [(hid hj).2];trivial) (fun j m' b hj hb=>by rw [(hid hj).2] at hb;exact hb.elim) (fun j j' m' m'' b _ hj _ hb=>by rw [(hid hj).2] at hb;exact hb.elim) ?_⟩
  ·rcases hb with hb | rfl | rfl
   ·exact .inl hb
   ·exact .inr (.inl ⟨Nat.le_refl _,by simp⟩)
   ·exact .inr (.inr ⟨id,.dead,hlk,hMB⟩)
  ·refine ⟨w.heap.size,mb,0,0,rfl,⟨by simp [cx],fun hn=>hn (.inr (.inl rfl))⟩,⟨by show mb<(w.alloc _).heap.size;simp;omega,fun hn=>hn (.inr (.inr rfl))⟩,?_,?_⟩
   ·show (w.heap.push (.mapIter (some mb) 0 #[] 0))[w.heap.size]? =_;simp
   ·show (w.heap.push (.mapIter (some mb) 0 #[] 0))[mb]? =_
    rw [Array.getElem?_push_lt hlt]
    rw [<- hb]
    exact (Array.getElem?_eq_getElem hlt).symm
 rename_i s
 split at hev
 case h_2=>exact hev.elim
 rename_i hs
 obtain ⟨hn,m1,hm,rfl,rfl⟩:=a9r hev
 unfold e3u at hs
 split at hs
 case h_2=>cases hs
 rename_i hu
 have hx:ev ρ x= .string s:=hx
 refine a9a h (obj:= .stringIter s 0) (v':= .pointer (some ⟨w.heap.size,0,none⟩)) hn ?_ (fun h=>by cases h) rfl rfl (fun b hb=>hb) ?_
 ·simp [execOp,hx,d5s hu,Result.andThen]
 ·intro X' _ hw _;exact ⟨w.heap.size,rfl,Int.le_refl 0,by rw [hw];show (w.heap.push (.stringIter s 0))[w.heap.size]? =_;simp⟩
theorem d78 (h:Rel E Z π σ ρ w) (hx:AVR (cx Z π σ w) a (ev ρ x)) (hev:(e1h a:U.Q).Ev σ m0 m v ws):a39 P E σ ρ w ⟨d,.next x false,ty,ps,af,g⟩ v ws:=by
 unfold e1h at hev
 split at hev
 case h_2=>exact hev.elim
 obtain ⟨_,rfl,rfl⟩:=hev
 obtain ⟨b,mb,s,c,hv,_,_,h5,h6⟩:=hx
 have h5:w.heap[b]? =some (.mapIter (some mb) s #[] c):=h5
 have hg:(getObj b).run P w= .ok (.mapIter (some mb) s #[] c) w:=by simp [getObj,Sem.run,h5]
 have hm:(getObj mb).run P w= .ok (.map #[] 0) w:=by
  have h6:w.heap[mb]? =some (.map #[] 0):=h6
  simp [getObj,Sem.run,h6]
 refine d9 h (v:= .tuple #[.bool false]) ?_ ⟨[.bool false],rfl,rfl,trivial⟩
 show (execOp (ev ρ) _).run P w=_
 simp [execOp,hv,Instr.next,hg,hm,choose,Sem.run,Question.forced,Question.cut,Result.andThen]
theorem e0y (h:Rel E Z π σ ρ w) (hx:AVR (cx Z π σ w) a (ev ρ x)) (hev:(e9t a:U.Q).Ev σ m0 m v ws):a39 P E σ ρ w ⟨d,.next x true,ty,ps,af,g⟩ v ws:=by
 unfold e9t at hev
 split at hev
 case h_2=>exact hev.elim
 rename_i id
 have hev:(match σ.mem id with
  | .it s p=>(.cas (e39 s p) (.done (.tup [.bool false]) [(id,.it s p)]) fun r=> .opt r fun c=> .done (.tup [.bool true,.int .i64 p,.int .i32 c]) [(id,.it s (p+1))]:U.Q)
  | _=> .fail).Ev σ _ m v ws:=hev
 split at hev
 case h_2=>exact hev.elim
 rename_i s p hmem
 have hm:=h.mem id
 rw [hmem] at hm
 obtain ⟨b,hv,h0,hb⟩:=hm
 have hxv:ev ρ x= .pointer (some ⟨b,0,none⟩):=by rw [hx.2.1];exact hv
 have key: ∀{c:Int} {s':Int} {u:U.AV},e15 s p=some c -> d5j s p=s' -> (∀X':Cx,AVR X' u (nxV (decide (p<(s.size:Int))) p c)) -> a39 P E σ ρ w ⟨d,.next x true,ty,ps,af,g⟩ u [(id,.it s s')]:=by
  intro c s' u hc hs' hu
  obtain ⟨w',hr,hE,hI⟩:=d87 (P:=P) (ty:=ty) ⟨h0,hb⟩ hc
  have hr:(Instr.next (.pointer (some ⟨b,0,none⟩)) true ty).run P w= .ok (nxV (decide (p<(s.size:Int))) p c) w':=hr
  have hrun:(execOp (ev ρ) ⟨d,.next x true,ty,ps,af,g⟩).run P w= .ok (.value (nxV (decide (p<(s.size:Int))) p c)) w':=by
   simp [execOp,hxv,hr,Result.andThen]
  unfold a39 y9
  rw [hrun]
  refine ⟨Z,π,h.set (fun hh=>by rw [hmem] at hh;cases hh) (fun hh=>by cases hh) (hE.mono fun y hy=> ?_) (fun X' _ hw=> ?_) (fun y hy=> ?_) fun X' _=>hu X'⟩
  ·rw [hmem,hv,hy];rfl
  ·rw [hs'] at hI
   exact ⟨b,hv,hI.1,by rw [hw];exact hI.2⟩
  ·rw [hmem];exact hy
 rcases hev with ⟨e,hm,rfl,rfl⟩ | ⟨r,e,hev⟩
 ·unfold e39 at e
  split at e
  ·cases e
  ·rename_i hp
   exact key (c:=0) (by unfold e15;rw [if_neg hp]) (by unfold d5j;rw [if_neg hp]) fun X'=>by
    rw [decide_eq_false hp];exact ⟨[.bool false],rfl,rfl,trivial⟩
 ·obtain ⟨c,hc,hm,rfl,rfl⟩:=hev
  unfold e39 at e
  split at e
  ·rename_i hp
   have e:=qH e
   rw [hc] at e
   exact key (c:=c) (by unfold e15;rw [if_pos hp];exact e) (by unfold d5j;rw [if_pos hp]) fun X'=>by
    rw [decide_eq_true hp];exact ⟨[.bool true,.int .i64 p,.int .i32 c],rfl,rfl,rfl,rfl,trivial⟩
  ·cases e
theorem a5q {α β:Type} {p:α -> β -> Prop}: ∀{l l':List α} {r r':List β},m7 p l r -> m7 p l' r' -> m7 p (l++l') (r++r')
 | [],_,[],_,_,h=>h
 | _::_,_,_::_,_,h,h'=>⟨h.1,a5q h.2 h'⟩
 | [],_,_::_,_,hh,_=>hh.elim
 | _::_,_,[],_,hh,_=>hh.elim
theorem c8c (hU:UOK U) (h:Rel E Z π σ ρ w) {t e:TypeId} {c:U.C} {dead:List Nat} {l:List (U.T c)} (hu:P.underlying t=some (.slice e)) (hok:d06 P e (U.n c)=true)
  (hs:MR (cx Z π σ w) (.sl e c l) (ev ρ x)) (hdead: ∀b,(ev ρ x).ownBlock=some b -> ∃id∈dead,MB (σ.mem id) (π id) b) (hy:AVR (cx Z π σ w) b (ev ρ y))
  (hev:(f4a P fr e c (dead.map fun id=>(id,.dead)) l b).Ev σ m0 m v ws):a39 P E σ ρ w ⟨d,.call ⟨.builtin .append,#[x,y],#[t,t]⟩,ty,ps,af,g⟩ v ws:=by
 unfold f4a at hev
 obtain ⟨xs,m1,hev,cx2,⟨G,hR⟩,hxr⟩:=e7i hU h hy hev
 obtain ⟨r,hr,hev⟩:=hev
 obtain ⟨hn,m2,hm1,hv0,hws⟩:=a9r hev
 subst hv0
 rw [hws]
 obtain ⟨css,hO,hsr⟩:=hs
 obtain ⟨ie,zv,hie,hz,hzs,hsz1,hp1,hp2⟩:=b69 hok
 obtain ⟨hbytes,hrl⟩:=e0w hr
 have hbt:c56 P e=ie.bytes:=by unfold c56;rw [hie]
 obtain ⟨v',w',hrun,hO',hE,hblk⟩:=c5o (P:=P) (t:=t) (ty:=ty) (bytes:=ie.bytes) (cells:=(Subtype.val:Raw (U.n c) -> List Value)) (fun r=>r.2.1) (fun r=>r.2.2) hu (by rw [hie];simp [hz,hzs,hsz1]) hp1 hp2 hO ⟨G,hR⟩ (by rw [hsr.length,hxr.length,<- hbt];exact hbytes) (Nat.zero_le _)
 unfold a39 y9
 have hex:(execOp (ev ρ) ⟨d,.call ⟨.builtin .append,#[x,y],#[t,t]⟩,ty,ps,af,g⟩).run P w= .ok (.value v') w':=by
  have hrun2:(Builtin.append_ #[t,t] ty #[ev ρ x,ev ρ y]).run P w= .ok v' w':=hrun
  simp [execOp,resolve,invoke,builtin,hrun2]
 rw [hex]
 refine ⟨Z,b52 π fr v',?_⟩
 refine h.new hn (fun h=>by cases h) (hE.mono hdead) ?_ (fun q hq=> ?_) ?_
 ·rintro X' hle hw hZ
  refine ⟨css++cx2,by rw [hw];exact hO',?_⟩
  rw [<- hrl]
  exact a5q (hsr.mono fun _ _ hh=>b8h hle hh) (hxr.mono fun _ _ hh=>b8h hle hh)
 ·obtain ⟨ad,cap,hv,_⟩:=hO'.shape
  have hq2:v'.ownBlock=some q:=(a6t hv).2 hq
  refine ⟨(hO'.lt hq2).2,?_⟩
  rcases hblk q hq2 with h1 | h1
  ·exact .inr (hdead q h1)
  ·exact .inl h1
 ·obtain ⟨ad,cap,hv,_⟩:=hO'.shape
  rw [hv];rfl
theorem e3a (hU:UOK U) (h:Rel E Z π σ ρ w) {t:TypeId} (hx:AVR (cx Z π σ w) a (ev ρ x)) (hy:AVR (cx Z π σ w) b (ev ρ y)) (hev:(f7a P fr t a b).Ev σ m0 m v ws):
  a39 P E σ ρ w ⟨d,.call ⟨.builtin .append,#[x,y],#[t,t]⟩,ty,ps,af,g⟩ v ws:=by
 unfold f7a at hev
 split at hev
 case h_2=>exact hev.elim
 rename_i e hu
 split at hev
 case h_2=>exact hev.elim
 rename_i c hc
 split at hev
 case h_2=>exact hev.elim
 rename_i hok
 split at hev
 ·refine c8c (dead:=[]) (l:=[]) hU h hu hok ⟨[],?_,trivial⟩ (fun b hb=> ?_) hy hev
  ·rw [show ev ρ x= .slice none 0 0 from hx];exact Own.nil _ _ _ _ _
  ·rw [show ev ρ x= .slice none 0 0 from hx] at hb;cases hb
 ·rename_i id
  split at hev
  ·exact hev.elim
  ·have hm:=h.mem id
   have hev:(match σ.mem id with
    | .sl e' c' l=>(match Nat.beq e e'&&eqC c' c,b44 c l with | true,some l=>f4a P fr e c [(id,.dead)] l b | _,_=>(.fail:U.Q))
    | _=>(.fail:U.Q)).Ev σ _ m v ws:=hev
   split at hev
   ·rename_i e' c' l' hmem
    split at hev
    ·rename_i l hbe hl
     simp only [qB] at hbe
     have h1:=qC hbe.1
     obtain ⟨he,hx2⟩:=a2b (G:=noG) (w:=w) hl
     subst he
     subst hx2
     subst h1
     rw [hmem] at hm
     refine c8c (dead:=[id]) hU h hu hok (by rw [hx.2.1];exact hm) (fun b hb=>⟨id,by simp,?_⟩) hy hev
     rw [hx.2.1] at hb
     rw [hmem]
     obtain ⟨css,hO,_⟩:=hm
     obtain ⟨ad,cap,hv,_⟩:=hO.shape
     exact (a6t hv).1 hb
    ·exact hev.elim
   ·exact hev.elim
 ·exact hev.elim
theorem a9d (h:Rel E Z π σ ρ w) {o:Option Operand} {d:Int} {k:Int -> U.Q} (hev:(bnd o d k).Ev σ m0 m v ws): ∃n m1,(k n).Ev σ m1 m v ws /\ ((o.map (ev ρ)=none /\ n=d) \/ o.map (ev ρ)=some (.int .i64 n)):=by
 unfold bnd at hev
 split at hev
 ·exact ⟨_,_,hev,.inl ⟨rfl,rfl⟩⟩
 ·rename_i op
  obtain ⟨a,m1,ha,hev⟩:=q9 h hev
  cases a<;>try exact hev.elim
  rename_i k n
  cases k<;>try exact hev.elim
  have ha:ev ρ op= .int .i64 n:=ha
  exact ⟨n,m1,hev,.inr (by simp [ha])⟩
theorem c61 (h:Rel E Z π σ ρ w) {t:TypeId} {c:U.C} {l r:List (U.T c)} {lo hi:Option Operand} {i j:Int} (hx:j5 (Rp c) (cx Z π σ w).G w (ev ρ x) l) (he:a9p P t c=true)
  (hlo:(lo.map (ev ρ)=none /\ i=0) \/ lo.map (ev ρ)=some (.int .i64 i)) (hhi:(hi.map (ev ρ)=none /\ j=(l.length:Int)) \/ hi.map (ev ρ)=some (.int .i64 j)) (hs:a0j l i j=some r):
  a39 P E σ ρ w ⟨d,.slice t x lo hi none,ty,ps,af,g⟩ (.list c r) []:=by
 obtain ⟨e,he1,he2,_,_⟩:=a90 he
 obtain ⟨u,hrun,hrep⟩:=f0i (P:=P) he1 (a7g he2) hx hs hlo hhi
 exact d9 h (v:=u) (by simp [YV,execOp,hrun]) hrep
theorem e1d {s r:ByteArray} {a b:Int} (h:c0f s a b=some r):0 <= a /\ a <= b /\ b <= (s.size:Int) /\ r=s.extract a.toNat b.toNat:=by
 unfold c0f at h
 split at h
 ·rename_i hc;exact ⟨hc.1,hc.2.1,hc.2.2,(qH h).symm⟩
 ·cases h
theorem d5x {t:TypeId} {s r:ByteArray} {lo hi:Option Value} {i j:Int} (ht:P.underlying t=some .string) (hlo:(lo=none /\ i=0) \/ lo=some (.int .i64 i)) (hhi:(hi=none /\ j=(s.size:Int)) \/ hi=some (.int .i64 j)) (hs:c0f s i j=some r):
  (Instr.sliceAt t (.string s) lo hi none).run P w= .ok (.string r) w:=by
 obtain ⟨h0,h1,h2,rfl⟩:=e1d hs
 have hj:(0 <= j /\ j <= (s.size:Int)):=by omega
 have hij:(0 <= i /\ i <= (j.toNat:Int)):=by omega
 rcases hlo with ⟨rfl,rfl⟩ | rfl<;>rcases hhi with ⟨rfl,hl⟩ | rfl
 ·have e1:j.toNat=s.size:=by omega
  simp [Instr.sliceAt,Instr.slice,run_underlying ht,Instr.sliceBounds,e1]
 ·simp [Instr.sliceAt,Instr.slice,run_underlying ht,Instr.sliceBounds,Instr.sliceBound,asIntOf,hj]
 ·have e1:j.toNat=s.size:=by omega
  rw [e1] at hij
  simp [Instr.sliceAt,Instr.slice,run_underlying ht,Instr.sliceBounds,Instr.sliceBound,asIntOf,hij,e1]
 ·simp [Instr.sliceAt,Instr.slice,run_underlying ht,Instr.sliceBounds,Instr.sliceBound,asIntOf,hj,hij]
  omega
theorem d68 (hU:UOK U) (h:Rel E Z π σ ρ w) {t:TypeId} {lo hi:Option Operand} (hx:AVR (cx Z π σ w) a (ev ρ x)) (hev:(e0p P t a lo hi).Ev σ m0 m v ws):
  a39 P E σ ρ w ⟨d,.slice t x lo hi none,ty,ps,af,g⟩ v ws:=by
 unfold e0p at hev
 split at hev
 ·rename_i s
  split at hev
  ·rename_i ht
   obtain ⟨i,m1,hev,hlo⟩:=a9d h hev
   obtain ⟨j,m2,hev,hhi⟩:=a9d h hev
   obtain ⟨r,hr,hm1,rfl,rfl⟩:=hev
   have hrun:=d5x (w:=w) ht hlo hhi hr
   have hx:ev ρ x= .string s:=hx
   exact d9 h (v:= .string r) (by simp [YV,execOp,hx,hrun]) rfl
  ·exact hev.elim
 ·rename_i c l
  split at hev
  ·rename_i he
   obtain ⟨i,m1,hev,hlo⟩:=a9d h hev
   obtain ⟨j,m2,hev,hhi⟩:=a9d h hev
   obtain ⟨r,hr,hm1,rfl,rfl⟩:=hev
   exact c61 h hx he hlo hhi hr
  ·exact hev.elim
 ·rename_i id
  have hm:=h.mem id
  simp only [Q.Ev] at hev
  split at hev
  ·rename_i e0 c l hmem
   split at hev
   ·rename_i he
    obtain ⟨i,m1,hev,hlo⟩:=a9d h hev
    obtain ⟨j,m2,hev,hhi⟩:=a9d h hev
    obtain ⟨r,hr,hm1,rfl,rfl⟩:=hev
    have hfz:FZ σ [(id,.fz c l)]:=by
     intro id' m' hh
     simp at hh
     obtain ⟨rfl,rfl⟩:=hh
     exact ⟨e0,c,l,hmem,rfl⟩
    refine b4e (ws:=[]) h hfz ?_
    have h1:=h.freeze hfz
    refine c61 h1 ?_ he hlo hhi hr
    have hm1:=h1.mem id
    rw [m5,b36] at hm1
    rw [hx.2.1];exact hm1
   ·exact hev.elim
  ·rename_i c l hmem
   split at hev
   ·rename_i he
    obtain ⟨i,m1,hev,hlo⟩:=a9d h hev
    obtain ⟨j,m2,hev,hhi⟩:=a9d h hev
    obtain ⟨r,hr,hm1,rfl,rfl⟩:=hev
    rw [hmem] at hm
    exact c61 h (by rw [hx.2.1];exact hm) he hlo hhi hr
   ·exact hev.elim
  ·exact hev.elim
 ·rename_i id c p
  unfold arrQ at hev
  split at hev
  case h_2=>exact hev.elim
  split at hev
  case h_2=>exact hev.elim
  rename_i ca hca
  split at hev
  case h_2=>exact hev.elim
  rename_i hok
  obtain ⟨_,rfl,rfl⟩:=hev
  obtain ⟨hA,m,e,he1,hmn,he2⟩:=b61 hok
  obtain ⟨hu,ad,had,hokp,hv⟩:=hx
  refine d9 h (v:= .slice (some (ad.add (c51 c p))) m m) ?_ ⟨hu,ad,had,hokp,by rw [hmn]⟩
  have e0: ∀a:Addr,a.add 0=a:=fun a=>by simp [Addr.add]
  simp [YV,execOp,hv,Instr.sliceAt,run_underlying he1,Instr.sureAddr,Instr.sliceBounds,b19 he2,e0]
 ·rename_i ca z
  split at hev
  case h_2=>exact hev.elim
  split at hev
  case h_2=>exact hev.elim
  rename_i hok
  simp only [qB] at hok
  obtain ⟨_,rfl,rfl⟩:=hev
  obtain ⟨hA,m,e,he1,hmn,he2⟩:=b61 hok.1
  obtain ⟨ad,cs,hv,hb,hg,hca,hr⟩:=hx
  have hlen:(U.al ca z).length=m:=by rw [hmn];exact (hU.arr ca z hA).2
  refine d9 h (v:= .slice (some ad) m m) ?_ (.inr ⟨ad,m,by rw [hlen],Nat.le_of_eq hlen,?_,fun i y hy=> ?_⟩)
  ·have e0: ∀a:Addr,a.add 0=a:=fun a=>by simp [Addr.add]
   simp [YV,execOp,hv,Instr.sliceAt,run_underlying he1,Instr.sureAddr,Instr.sliceBounds,b19 he2,e0]
  ·rw [hmn];exact Nat.le_trans (Nat.le_of_ble_eq_true hok.2) (by decide)
  ·obtain ⟨u,hu,hr⟩:=a0k (X:=cx Z π σ w) hr
   obtain ⟨u1,hu1,hc1⟩:=c74 hU hA hr (ad:=ad) (n:=i) (y:=y) (by rw [hu];exact hca) (by unfold c8;rw [if_pos (Int.natCast_nonneg i)];exact hy)
   exact ⟨_,d59 hU (b1i (.inl (a15 hU _ y).1) hu1),hb,hg,hc1⟩
 ·exact hev.elim
end
end Go.SX
namespace Go.SX
open Go Go.PL
section
variable {P:Program} {U:Uni}
def cz (Z:Nat -> Prop) (w:World):Cx:=⟨Z,fun _=>undef,fun _=>False,w⟩
theorem a84 {X X':Cx} {a:U.AV} {u:Value} (hk:b4v a=true) (h:a18 X a u) (hw:X'.w=X.w) (hz: ∀b,X.Z b -> X'.Z b):a18 X' a u:=by
 cases a<;>first
  | (cases hk;done)
  | exact h
  | (obtain ⟨cs,hu,hr⟩:=h
     refine ⟨cs,hu,?_⟩
     rw [hw]
     exact (Rp _).weaken hr fun b _ hb hz'=>hb (hz b hz'))
  | (show j5 (Rp _) X'.G X'.w u _
     rw [hw]
     exact j5.weaken h fun b _ hb hz'=>hb (hz b hz'))
  | (obtain ⟨ad,cs,hu,hb,hg,hca,hr⟩:=h
     refine ⟨ad,cs,hu,?_⟩
     rw [hw]
     exact ⟨hb,fun hn=>hg fun hz'=>hn (hz _ hz'),hca,hr.weaken fun b _ hb hz'=>hb (hz b hz')⟩)
theorem b7e (hU:UOK U) {X:Cx} {c:U.C} {a:U.AV} {x:U.T c} (h:prj c a=some x) {u:Value} (hr:a18 X a u):a18 X (inj c x) u:=by
 unfold prj at h
 unfold inj
 cases ha:U.ag c with
 | true=>
   rw [ha] at h
   have key: ∀{c':U.C} {x':U.T c'},cst c x'=some x -> a18 X (.val c' x') u -> a18 X (.val c x) u:=by
    intro c' x' h hr
    unfold cst at h
    split at h
    ·rename_i he _;subst he;cases h;exact hr
    ·cases h
   cases a<;>try (cases h;done)
   case val c' x'=>exact key h hr
   case st c' as=>
    dsimp only at h
    split at h
    ·rename_i x' hk
     obtain ⟨css,hu,_,_,hh⟩:=hr
     exact key h ⟨css.flatten,hu,d15 hU hk hh⟩
    ·cases h
 | false=>
   rw [ha] at h
   have hk:=hU.mkl c [a] x h
   cases hl:U.flds c x with
   | nil=>rw [hl] at hk;exact hk.elim
   | cons b r=>rw [hl] at hk;cases r with
     | nil=>exact d3p hk.1 hr
     | cons _ _=>exact hk.2.elim
theorem d9z: ∀(m:List (Nat×Nat)) (l l':List U.AV) (j:Nat),((∃id,(j,id)∈m /\ (j<l.length -> (b3u m l)[j]? =some (.ref id)))) \/ ((b3u m l)[j]? =l[j]? /\ (c4h m l')[j]? =l'[j]?)
 | [],l,l',j=> .inr ⟨rfl,rfl⟩
 | q::m,l,l',j=>by
   have hlen: ∀(m:List (Nat×Nat)) (l:List U.AV),(b3u m l).length=l.length:=by
    intro m l
    induction m with
    | nil=>rfl
    | cons q m ih=>simp [b3u,ih]
   by_cases hq:q.1=j
   ·left
    subst hq
    exact ⟨q.2,qI,fun hj=>by simp [b3u,hlen,hj]⟩
   ·rcases d9z m l l' j with ⟨id,h1,h2⟩ | ⟨h1,h2⟩
    ·left
     refine ⟨id,qJ _ h1,fun hj=> ?_⟩
     simp only [b3u]
     rw [List.getElem?_set_ne hq];exact h2 hj
    ·right
     simp only [b3u,c4h]
     rw [List.getElem?_set_ne hq,List.getElem?_set_ne hq]
     exact ⟨h1,h2⟩
theorem b2k: ∀(m:List (Nat×Nat)) (l:List U.AV),(b3u m l).length=l.length
 | [],_=>rfl
 | q::m,l=>by simp [b3u,b2k m l]
theorem d0g: ∀(m:List (Nat×Nat)) (l:List U.AV),(c4h m l).length=l.length
 | [],_=>rfl
 | q::m,l=>by simp [c4h,d0g m l]
theorem b5y {fs:List U.AV} {f i:Nat} (h:c0d fs f=some i):fs[f]? =some (.ref i):=by
 unfold c0d at h
 split at h
 ·rename_i j hj;cases h;exact hj
 ·cases h
theorem c77 (hU:UOK U) {X X':Cx} {c:U.C} {fs:List U.AV} {m:List (Nat×Nat)} {x:U.T c} {css:List (List Value)} (hlay:fs.map u9=U.lay c) (hpp:fs.all u7=true) (hr:m7 (fun a s=> ∃u:Value,u.cells.toList=s /\ b37 X a u) fs css) (hk:U.mkv c (c4h m fs)=some x)
  (hw:X'.w=X.w) (hz: ∀b,X.Z b -> X'.Z b) (href: ∀j id,(j,id)∈m -> ∃i,fs[j]? =some (.ref i) /\ X'.us id /\ X'.π id=X.π i):
  (b3u m (U.flds c x)).map u9=U.lay c /\ (b3u m (U.flds c x)).all u7=true /\ m7 (fun a s=> ∃u:Value,u.cells.toList=s /\ b37 X' a u) (b3u m (U.flds c x)) css:=by
 have hA:=hU.mkl c _ x hk
 have hkd:=hU.kind c x
 have hL:=hU.lay c x
 have hlen:(U.flds c x).length=fs.length:=by
  have h1:=m7.length hA
  rw [d0g] at h1;exact h1.symm
 have hat: ∀(j:Nat) (a:U.AV),(b3u m (U.flds c x))[j]? =some a -> u7 a=true /\ (U.lay c)[j]? =some (u9 a) /\ ∀s u,fs[j]? ≠none -> css[j]? =some s -> (∀a0,fs[j]? =some a0 -> b37 X a0 u) -> b37 X' a u:=by
  intro j a ha
  have hj:j<(U.flds c x).length:=by
   have:=(qD.1 ha).1
   rwa [b2k] at this
  rcases d9z m (U.flds c x) fs j with ⟨id,h1,h2⟩ | ⟨h1,h2⟩
  ·rw [h2 hj] at ha
   cases ha
   obtain ⟨i,hi,hus,hπ⟩:=href j id h1
   refine ⟨rfl,?_,fun s u _ _ hu=> ?_⟩
   ·rw [<- hlay,List.getElem?_map,hi];rfl
   ·obtain ⟨g1,g2,g3⟩:=hu _ hi
    exact ⟨hus,by rw [hπ];exact g2,g3⟩
  ·rw [h1] at ha
   have hka:b4v a=true:=List.all_eq_true.1 hkd a (qE ha)
   have hpa:u7 a=true:=by cases a<;>first | rfl | cases hka
   refine ⟨hpa,?_,fun s u hfj _ hu=> ?_⟩
   ·rw [<- hL,List.getElem?_map,ha];rfl
   ·cases hf:fs[j]? with
    | none=>exact absurd hf hfj
    | some a0=>
      have h0:=hu a0 hf
      rw [hf] at h2
      obtain ⟨b,hb,hab⟩:=hA.get h2
      rw [ha] at hb
      cases hb
      exact a18.to0 hpa (a84 hka (d3p hab (.of0 h0)) hw hz)
 refine ⟨?_,?_,?_⟩
 ·apply List.ext_getElem?
  intro j
  rw [List.getElem?_map]
  cases ha:(b3u m (U.flds c x))[j]? with
  | some a=>rw [(hat j a ha).2.1];rfl
  | none=>
    have:(b3u m (U.flds c x)).length <= j:=List.getElem?_eq_none_iff.1 ha
    rw [b2k] at this
    rw [<- hL,List.getElem?_map,List.getElem?_eq_none this]
 ·rw [List.all_eq_true]
  intro a ha
  obtain ⟨j,hj⟩:=List.getElem?_of_mem ha
  exact (hat j a hj).1
 ·refine m7.of_get (by rw [b2k,hlen];exact hr.length) fun j a s ha hs=> ?_
  have hj:j<fs.length:=by rw [hr.length];exact (qD.1 hs).1
  have hfj:fs[j]? =some fs[j]:=qG hj
  obtain ⟨s',hs',u,hu,hru⟩:=hr.get hfj
  rw [hs] at hs'
  cases hs'
  exact ⟨u,hu,(hat j a ha).2.2 s u (by rw [hfj];intro h;cases h) hs fun a0 h0=>by rw [hfj] at h0;rw [<- qH h0];exact hru⟩
theorem e26 {G G':Nat -> Prop} {w w':World} (hU:UOK U): ∀(k:Nat) (c:U.C) (cs:List Value) (x:U.T c),U.flat c=true -> (Rd k c).rep G w cs x -> (Rd k c).rep G' w' cs x
 | 0,_,_,_,_,h=>False.elim h
 | k+1,c,cs,x,hf,⟨hl,css,hc,h⟩=>by
   refine ⟨hl,css,hc,?_⟩
   have hfl:=hU.flat c x hf
   clear hl hc
   generalize U.flds c x=fs at h hfl
   induction fs generalizing css with
   | nil=>cases css with
     | nil=>trivial
     | cons _ _=>exact h.elim
   | cons a fs ih=>cases css with
     | nil=>exact h.elim
     | cons s css=>
       simp only [List.all_cons,qB] at hfl
       refine ⟨?_,ih css h.2 hfl.2⟩
       have h1:=h.1
       cases a<;>simp only [d7] at h1⊢ <;>first
        | exact h1
        | (cases hfl.1;done)
        | exact e26 hU k _ _ _ hfl.1 h1
theorem c7n (hU:UOK U) {G G':Nat -> Prop} {w w':World} {c:U.C} (hf:U.flat c=true) {cs:List Value} {x:U.T c} (h:(Rp c).rep G w cs x):(Rp c).rep G' w' cs x:=by
 obtain ⟨k,h⟩:=h
 exact ⟨k,e26 hU k c cs x hf h⟩
def AR (σ:U.St) (π:Nat -> Value) (X:Cx) (all:List Value):(p:PK U.C) -> Value -> p.T U -> List Nat -> Prop
 | .v c,u,x,i=>i=[] /\ a18 X (inj c x) u
 | .ls c,u,l,i=>i=[] /\ j5 (Rp c) X.G X.w u l
 | .rp _ c,u,x,i=>i=[] /\ a18 X (.rp (inj c x)) u
 | .ow e c,u,l,i=>(i=[] /\ u= .slice none 0 0 /\ l=[]) \/ ∃id,i=[id] /\ u=π id /\ σ.mem id= .sl e c l
 | .io t c,u,x,i=> ∃id b,i=[id] /\ u=π id /\ σ.mem id= .box t b /\ MR X (.box t (inj c x)) u
 | .im t c m,u,x,i=> ∃id fs,i=[id] /\ u=π id /\ σ.mem id= .box t (.st c fs) /\ U.mkv c (c4h m fs)=some x /\ ∀f k,(f,k)∈m -> ∃j,fs[f]? =some (.ref j) /\ all[k]? =some (π j)
 | .po _ _ e c,u,l,i=> ∃id,i=[id] /\ u=π id /\ σ.mem id= .sl e c l
 | .so e c,u,l,i=> ∃id,i=[id] /\ u=π id /\ σ.mem id= .sl e c l
 | .cl f cs,u,x,i=>i=[] /\ ∃vs:List Value,u= .func (.func f) #[] vs.toArray /\ m7 (a18 X) (e2s cs x) vs
 | .bn f c,u,x,i=>i=[] /\ AVR X (.bnd f (inj c x)) u
 | .km g t,u,x,i=>i=[] /\ AVR X (.km g t x:U.AV) u
 | .vl g t c,u,x,i=>i=[] /\ AVR X (.vl g t c x) u
def ARs (σ:U.St) (π:Nat -> Value) (X:Cx) (all:List Value):(ps:List (PK U.C)) -> List Value -> Args U ps -> List (List Nat) -> Prop
 | [],[],_,[]=>True
 | p::ps,u::us,(x,xs),i::is=>AR σ π X all p u x i /\ ARs σ π X all ps us xs is
 | _,_,_,_=>False
def RR (X:Cx):(r:RK U.C) -> r.T U -> Value -> Prop
 | .v c,x,u=>a18 X (inj c x) u
 | .ls c,x,u=>j5 (Rp c) X.G X.w u x
 | .ow e c,x,u=>MR X (.sl e c x) u
 | .bo _ _,none,u=>u= .pointer none
 | .bo t c,some x,u=>MR X (.box t (inj c x)) u
def RRs (X:Cx):(rs:List (RK U.C)) -> Ress U rs -> List Value -> Prop
 | [],_,[]=>True
 | r::rs,(x,xs),u::us=>RR X r x u /\ RRs X rs xs us
 | _,_,_=>False
def OR (X:Cx):(ps:List (PK U.C)) -> Outs U ps -> List Value -> Prop
 | [],_,[]=>True
 | .io t c::ps,(x,xs),u::us=>MR X (.box t (inj c x)) u /\ OR X ps xs us
 | .im t c m::ps,(x,xs),u::us=>MR X (.box t (.st c (b3u m (U.flds c x)))) u /\ OR X ps xs us
 | .po _ _ e c::ps,(x,xs),u::us=>MR X (.sl e c x) u /\ OR X ps xs us
 | .so e c::ps,(x,xs),u::us=>MR X (.sl e c x) u /\ OR X ps xs us
 | .v _::ps,xs,_::us=>OR X ps xs us
 | .ls _::ps,xs,_::us=>OR X ps xs us
 | .ow _ _::ps,xs,_::us=>OR X ps xs us
 | .rp _ _::ps,xs,_::us=>OR X ps xs us
 | .cl _ _::ps,xs,_::us=>OR X ps xs us
 | .bn _ _::ps,xs,_::us=>OR X ps xs us
 | .km _ _::ps,xs,_::us=>OR X ps xs us
 | .vl _ _ _::ps,xs,_::us=>OR X ps xs us
 | _,_,_=>False
def b8m:List (RK U.C) -> List Value -> List Value
 | .ow _ _::rs,u::us=>u::b8m rs us
 | .bo _ _::rs,u::us=>u::b8m rs us
 | _::rs,_::us=>b8m rs us
 | _,_=>[]
def ioB:List (PK U.C) -> List Value -> List Value
 | .io _ _::ps,u::us=>u::ioB ps us
 | .im _ _ _::ps,u::us=>u::ioB ps us
 | .po _ _ _ _::ps,u::us=>u::ioB ps us
 | .so _ _::ps,u::us=>u::ioB ps us
 | _::ps,_::us=>ioB ps us
 | _,_=>[]
def f1h:List Value -> Value
 | [u]=>u
 | us=> .tuple us.toArray
def c0g (us:List Value):Nat -> Value:=fun t=>us.getD t undef
def czO (Z:Nat -> Prop) (ps:List (PK U.C)) (us:List Value) (w:World):Cx:=⟨Z,c0g us,fun k=> ∃p,ps[k]? =some p /\ c6n p=true,w⟩
structure Post (s:Sig U) (Z G:Nat -> Prop) (w:World) (args:List Value) (r:Ress U s.rs×Outs U s.ps) (u:Value) (w':World):Prop where
 ex: ∃(Z':Nat -> Prop) (us:List Value) (args':List Value),u=f1h us /\ (∀b,Z b -> Z' b) /\ (∀b,Z' b -> Z b \/ G b \/ (w.heap.size <= b /\ b<w'.heap.size)) /\ Ext G w w' /\
  args'.length=args.length /\ (∀(i:Nat) (p:PK U.C),s.ps[i]? =some p -> c6n p=false -> args'[i]? =args[i]?) /\
  RRs (cz Z' w') s.rs r.1 us /\ OR (czO Z' s.ps args' w') s.ps r.2 args' /\
  (∀v∈b8m s.rs us++ioB s.ps args',∀b,hdV v=some b -> ¬Z' b /\ b<w'.heap.size /\ (G b \/ w.heap.size <= b)) /\
  (∀(i j:Nat) (v v':Value) (b:Nat),i≠j -> (b8m s.rs us++ioB s.ps args')[i]? =some v -> (b8m s.rs us++ioB s.ps args')[j]? =some v' -> hdV v=some b -> hdV v'≠some b)
def b50 (ps:List (PK U.C)) (i:Nat):Prop:=(∃t c,ps[i]? =some (.io t c)) \/ (∃t c m,ps[i]? =some (.im t c m)) \/ ∃e c,ps[i]? =some (.so e c)
def Spec (P:Program) (f:FuncId) (fe:Fent U):Prop:=
 ∀(xs:Args U fe.s.ps) (b:fe.B),fe.F xs=some b -> ∀(Z G:Nat -> Prop) (w:World) (us:List Value),
  us.length=fe.s.ps.length -> Rel ⟨w,G,Z,b50 fe.s.ps,c0g us⟩ Z (c0g us) (u6 0 fe.s.ps xs) (c0g (us.take (npK fe.s.ps))) w -> Calls P f (us.take (npK fe.s.ps)).toArray w fun e w'=> ∃u,e= .returned u /\ Post fe.s Z G w us (fe.wr b) u w'
def b13 (P:Program) (f:FuncId):Prop:= ∀(args:Array Value) (w:World),(callFunc f args).run P w= .ok (.enter f args) w
def e0l (P:Program) (f:FuncId) (fe:Fent U):Prop:=
 ∀(xs:Args U fe.s.ps) (b:fe.B),fe.F xs=some b -> ∀(Z G:Nat -> Prop) (w:World) (us:List Value),
  us.length=fe.s.ps.length -> Rel ⟨w,G,Z,b50 fe.s.ps,c0g us⟩ Z (c0g us) (u6 0 fe.s.ps xs) (c0g (us.take (npK fe.s.ps))) w -> ∃u w',(callFunc f (us.take (npK fe.s.ps)).toArray).run P w= .ok (.value u) w' /\ Post fe.s Z G w us (fe.wr b) u w'
def c3a (P:Program) (f g:FuncId) (t:TypeId):Prop:=b13 P f /\ ∀(u:Value),u.cells.toList=[u] -> ∀w:World,Calls P f #[u] w fun e w'=>e= .returned (.func (.func g) #[] #[.pointer (some ⟨w.heap.size,0,none⟩)]) /\ w'=w.alloc (.cells #[u] t)
def c9z (P:Program) (f:FuncId) (q:Nat -> List U.AV -> U.Q):Prop:=b13 P f /\ ∀(E:Env) (Z:Nat -> Prop) (π:Nat -> Value) (σ:U.St) (ρ:Nat -> Value) (w:World) (fr:Nat) (as:List U.AV) (us:List Value) (m0 m:Nat) (v:U.AV) (ws:List (Nat×U.MC)),
 Rel E Z π σ ρ w -> m7 (AVR (cx Z π σ w)) as us -> (q fr as).Ev σ m0 m v ws -> Calls P f us.toArray w fun e w'=> ∃u,e= .returned u /\ ∀d:Option Tmp,∃Z' π',Rel E Z' π' (σ.app d v ws) (a9j ρ d u) w'
def c2k (P:Program) (f:FuncId) (fe:Fent U):Prop:=match fe.kc with
 | some (.seq g t _)=>c3a P f g t
 | some (.qy q)=>c9z P f q
 | none=>(Spec P f fe /\ b13 P f) \/ e0l P f fe
section
variable {E:Env} {Z:Nat -> Prop} {π:Nat -> Value} {σ:U.St} {ρ:Nat -> Value} {w:World}
variable {m0 m:Nat} {a b v:U.AV} {ws:List (Nat×U.MC)} {fr:Nat}
def b1r (σ:U.St) (π:Nat -> Value) (fz:List (Nat×U.MC)) (b:Nat):Prop:= ∃q∈fz,MB (σ.mem q.1) (π q.1) b
theorem e7d (hU:UOK U) (h:Rel E Z π σ ρ w) {t:TypeId} {c:U.C} {b:U.AV} {q:Value} {k:U.T c -> List (Nat×U.MC) -> U.Q} (hm:MR (cx Z π σ w) (.box t b) q) (hev:(f5q c b k).Ev σ m0 m v ws):
  ∃x fz m1,(k x fz).Ev σ m1 m v ws /\ FZ σ fz /\ ∃(blk:Nat) (u1:Value),q= .pointer (some ⟨blk,0,none⟩) /\ Mb w blk t u1.cells.toList /\ ∀Z',(∀b,Z b -> Z' b) -> (∀b,b1r σ π fz b -> Z' b) -> d7 Rp (cz Z' w).G w (inj c x) u1.cells.toList:=by
 obtain ⟨blk,u1,hv,hM,ha⟩:=hm
 have fin: ∀{x:U.T c} {fz:List (Nat×U.MC)} {Z1:Nat -> Prop},(∀b,Z1 b -> Z b \/ b1r σ π fz b) -> (Rp c).rep (fun b=> ¬Z1 b) w u1.cells.toList x -> ∀Z',(∀b,Z b -> Z' b) -> (∀b,b1r σ π fz b -> Z' b) -> d7 Rp (cz Z' w).G w (inj c x) u1.cells.toList:=
  fun h1 hx Z' hz hb=>(b2z hU hx).weaken fun b _ hg h2=>hg ((h1 b h2).elim (hz b) (hb b))
 unfold f5q at hev
 split at hev
 ·rename_i c' fs
  obtain ⟨css,hu,hlay,hp,hr⟩:=ha
  obtain ⟨as',fz,m1,hev,hf,hA⟩:=f2y (c:=c') hU h hp hr hev
  split at hev
  case h_2=>exact hev.elim
  rename_i x0 hk
  split at hev
  case h_2=>exact hev.elim
  rename_i x hc
  have hcs:=hA x0 hk
  unfold cst at hc
  split at hc
  case h_2=>cases hc
  rename_i he _
  subst he
  cases hc
  refine ⟨_,fz,m1,hev,hf,blk,u1,hv,hM,fin (fun b hb=> ?_) (by rw [hu];exact hcs)⟩
  rcases hb with hb | ⟨id,m,hl,hb⟩
  ·exact .inl hb
  ·exact .inr ⟨(id,m),a98 hl,hb⟩
 ·cases hp:prj c b with
  | none=>rw [hp] at hev;exact hev.elim
  | some x=>rw [hp] at hev;exact ⟨x,[],m0,hev,(fun _ _ hh=>by cases hh),blk,u1,hv,hM,fin (fun b hb=> .inl hb) (b3t hU hp ha)⟩
theorem f3f (hU:UOK U) (h:Rel E Z π σ ρ w) {nf:Bool} {c:U.C} {u:Value} {k:U.T c -> List (Nat×U.MC) -> U.Q} (hx:AVR (cx Z π σ w) a u) (hev:(rpQ nf c a k).Ev σ m0 m v ws):
  ∃x fz m1,(k x fz).Ev σ m1 m v ws /\ (nf=true -> FZ σ fz) /\ (∀q∈fz,σ.mem q.1≠ .never) /\ ∀Z',(∀b,Z b -> Z' b) -> (∀b,b1r σ π fz b -> Z' b) -> a18 (cz Z' w) (.rp (inj c x)) u:=by
 unfold rpQ at hev
 split at hev
 ·rename_i b0
  split at hev
  ·rename_i x hp
   refine ⟨x,[],_,hev,fun _=>(fun _ _ hh=>by cases hh),(fun _ hh=>by cases hh),fun Z' hz _=> ?_⟩
   obtain ⟨ad,cs,hv,hb,hg,hca,hr⟩:=hx
   refine ⟨ad,cs,hv,hb,fun hn=>hg fun hz'=>hn (hz _ hz'),hca,?_⟩
   obtain ⟨u1,hu1,hr1⟩:=a0k hr
   have h1:=b3t hU hp hr1
   rw [hu1] at h1
   exact (b2z hU h1).weaken fun b _ hb hz'=>hb (hz b hz')
  ·exact hev.elim
 ·rename_i id
  split at hev
  ·exact hev.elim
  ·simp only [Q.Ev] at hev
   have hm:=h.mem id
   split at hev
   ·rename_i t' b0 hmem
    rw [hmem] at hm
    obtain ⟨x,fz,m1,hev,hf,blk,u1,hv,hM,hr⟩:=e7d hU h hm hev
    refine ⟨x,_,_,hev,(fun hnf=>by cases hnf),(fun q hh=> ?_),fun Z' hz hb=>⟨⟨blk,0,none⟩,u1.cells.toList,by rw [hx.2.1];exact hv,hM.lt,fun hn=>hn (hb blk ⟨_,qI,?_⟩),hM.ca,hr Z' hz fun b ⟨q,hq,hb'⟩=>hb b ⟨q,qJ _ hq,hb'⟩⟩⟩
    ·rcases qO.1 hh with rfl | hh
     ·rw [hmem];intro h;cases h
     ·obtain ⟨e,c1,l1,h1,_⟩:=hf q.1 q.2 hh
      rw [h1];intro h;cases h
    ·show MB (σ.mem id) (π id) blk
     rw [hmem,hv];rfl
   ·exact hev.elim
 ·exact hev.elim
theorem e6t (hU:UOK U) (h:Rel E Z π σ ρ w) {nf:Bool}: ∀{cs:List U.C} {as:List U.AV} {vs:List Value} {k:CapT U cs -> List (Nat×U.MC) -> U.Q} {m0 m:Nat} {v:U.AV} {ws:List (Nat×U.MC)},m7 (a18 (cx Z π σ w)) as vs -> (f6j nf cs as k).Ev σ m0 m v ws ->
  ∃x fz m1,(k x fz).Ev σ m1 m v ws /\ (nf=true -> FZ σ fz) /\ (∀q∈fz,σ.mem q.1≠ .never) /\ ∀Z',(∀b,Z b -> Z' b) -> (∀b,b1r σ π fz b -> Z' b) -> m7 (a18 (cz Z' w)) (e2s cs x) vs
 | [],[],[],k,m0,m,v,ws,_,hev=>⟨(),[],m0,hev,fun _=>(fun _ _ hh=>by cases hh),(fun _ hh=>by cases hh),fun _ _ _=>trivial⟩
 | c::cs,a::as,u::us,k,m0,m,v,ws,hx,hev=>by
   obtain ⟨x,fz,m1,hev,h1,h2,h4⟩:=f3f hU h (AVR.of1 hx.1) hev
   obtain ⟨xs,fzs,m2,hev,g1,g2,g4⟩:=e6t hU h hx.2 hev
   refine ⟨(x,xs),fz++fzs,m2,hev,fun hnf id m hh=> ?_,fun q hh=> ?_,fun Z' hz hb=>⟨h4 Z' hz fun b ⟨q,hq,hb'⟩=>hb b ⟨q,List.mem_append_left _ hq,hb'⟩,g4 Z' hz fun b ⟨q,hq,hb'⟩=>hb b ⟨q,List.mem_append_right _ hq,hb'⟩⟩⟩
   ·rcases qK.1 hh with hh | hh
    ·exact h1 hnf id m hh
    ·exact g1 hnf id m hh
   ·rcases qK.1 hh with hh | hh
    ·exact h2 q hh
    ·exact g2 q hh
 | [],_::_,_,_,_,_,_,_,_,hev=>hev.elim
 | _::_,[],_,_,_,_,_,_,_,hev=>hev.elim
 | [],[],_::_,_,_,_,_,_,hx,_=>hx.elim
 | _::_,_::_,[],_,_,_,_,_,hx,_=>hx.elim
theorem f3m (hU:UOK U) (h:Rel E Z π σ ρ w) {nf:Bool} {all:List U.AV} {ua:List Value} (hall:m7 (AVR (cx Z π σ w)) all ua) {p:PK U.C} {u:Value} {k:p.T U -> List Nat -> List (Nat×U.MC) -> U.Q} (hx:AVR (cx Z π σ w) a u) (hev:(d5b nf all p a k).Ev σ m0 m v ws):
  ∃x i fz m1,(k x i fz).Ev σ m1 m v ws /\ (nf=true -> FZ σ fz) /\ (∀q∈fz,σ.mem q.1≠ .never) /\ (∀id∈i,σ.mem id≠ .never) /\ ∀Z',(∀b,Z b -> Z' b) -> (∀b,b1r σ π fz b -> Z' b) -> AR σ π (cz Z' w) ua p u x i:=by
 have trl: ∀{c:U.C} {l:List (U.T c)} (Z':Nat -> Prop),(∀b,Z b -> Z' b) -> j5 (Rp c) (cx Z π σ w).G w u l -> j5 (Rp c) (cz Z' w).G (cz Z' w).w u l:=fun Z' hz hr=>j5.weaken hr fun b _ hb hz'=>hb (hz b hz')
 cases p with
 | v c=>
   simp only [d5b] at hev
   split at hev
   ·rename_i x hp
    refine ⟨x,[],[],_,hev,fun _=>(fun _ _ hh=>by cases hh),(fun _ hh=>by cases hh),(fun _ hh=>by cases hh),fun Z' hz _=>⟨rfl,?_⟩⟩
    have hs:b5i a=true:=by
     have:=c0v hU hp
     cases a<;>first
      | rfl
      | (exfalso
         unfold prj at hp
         cases hag:U.ag c<;>rw [hag] at hp<;>try (cases hp;done)
         have hk:=hU.mkl c _ x hp
         have hkd:=hU.kind c x
         cases hl:U.flds c x with
         | nil=>rw [hl] at hk;exact hk.elim
         | cons b r=>
           rw [hl] at hk hkd
           simp only [List.all_cons,qB] at hkd
           rcases hk.1 with h1 | ⟨h1,_⟩
           ·rw [<- h1] at hkd;cases hkd.1
           ·cases h1)
    exact a84 (X':=cz Z' w) (a15 hU c x).1 (b7e hU hp (a6k hs hx)) rfl hz
   ·exact hev.elim
 | ls c=>
   simp only [d5b,argL] at hev
   split at hev
   ·split at hev
    ·rename_i l hl
     obtain ⟨he,hx2⟩:=a2b (G:=noG) (w:=w) hl
     subst he;subst hx2
     exact ⟨_,[],[],_,hev,fun _=>(fun _ _ hh=>by cases hh),(fun _ hh=>by cases hh),(fun _ hh=>by cases hh),fun Z' hz _=>⟨rfl,trl Z' hz hx⟩⟩
    ·exact hev.elim
   ·exact ⟨[],[],[],_,hev,fun _=>(fun _ _ hh=>by cases hh),(fun _ hh=>by cases hh),(fun _ hh=>by cases hh),fun Z' hz _=>⟨rfl,.inl ⟨hx,rfl⟩⟩⟩
   ·rename_i id
    have hm:=h.mem id
    simp only [Q.Ev] at hev
    split at hev
    ·rename_i e c' l' hmem
     split at hev
     ·rename_i l hl
      obtain ⟨he,hx2⟩:=a2b (G:=noG) (w:=w) hl
      subst he;subst hx2
      refine ⟨_,[],_,_,hev,fun _=>(fun id' m' hh=>by simp at hh;obtain ⟨rfl,rfl⟩:=hh;exact ⟨e,_,_,hmem,rfl⟩),(fun q hh=>by simp at hh;subst hh;rw [hmem];intro h;cases h),(fun _ hh=>by cases hh),fun Z' hz hb=>⟨rfl,?_⟩⟩
      rw [hmem] at hm
      rw [hx.2.1]
      refine b5j (X:=cx Z π σ w) (Z':=Z') hm hz fun b hb'=>hb b ⟨_,qF.2 rfl,?_⟩
      show MB (σ.mem id) (π id) b
      rw [hmem]
      obtain ⟨css,hO,_⟩:=hm
      obtain ⟨ad,cap,hv,_⟩:=hO.shape
      exact (a6t hv).1 hb'
     ·exact hev.elim
    ·rename_i c' l' hmem
     split at hev
     ·rename_i l hl
      obtain ⟨he,hx2⟩:=a2b (G:=noG) (w:=w) hl
      subst he;subst hx2
      rw [hmem] at hm
      exact ⟨_,[],[],_,hev,fun _=>(fun _ _ hh=>by cases hh),(fun _ hh=>by cases hh),(fun _ hh=>by cases hh),fun Z' hz _=>⟨rfl,by rw [hx.2.1];exact j5.weaken hm fun b _ hb hz'=>hb (hz b hz')⟩⟩
     ·exact hev.elim
    ·exact hev.elim
   ·exact hev.elim
 | ow e c=>
   simp only [d5b] at hev
   split at hev
   ·exact ⟨[],[],[],_,hev,fun _=>(fun _ _ hh=>by cases hh),(fun _ hh=>by cases hh),(fun _ hh=>by cases hh),fun Z' hz _=> .inl ⟨rfl,hx,rfl⟩⟩
   ·rename_i id
    simp only [Q.Ev] at hev
    split at hev
    ·rename_i e' c' l' hmem
     split at hev
     ·rename_i l hbe hl
      have h1:=qC hbe
      obtain ⟨he,hx2⟩:=a2b (G:=noG) (w:=w) hl
      subst he;subst hx2;subst h1
      exact ⟨_,[id],[],_,hev,fun _=>(fun _ _ hh=>by cases hh),(fun _ hh=>by cases hh),(fun q hh=>by simp at hh;subst hh;rw [hmem];intro h;cases h),fun Z' hz _=> .inr ⟨id,rfl,hx.2.1,hmem⟩⟩
     ·exact hev.elim
    ·exact hev.elim
   ·exact hev.elim
 | rp t c=>
   obtain ⟨x,fz,m1,h1,h2,h3,h4⟩:=f3f hU h hx hev
   exact ⟨x,[],fz,m1,h1,h2,h3,(fun _ hh=>by cases hh),fun Z' hz hb=>⟨rfl,h4 Z' hz hb⟩⟩
 | cl f cs=>
   simp only [d5b] at hev
   split at hev
   ·rename_i f' as
    split at hev
    ·rename_i hf
     have:=qC hf
     subst this
     obtain ⟨vs,hv,hr⟩:=hx
     obtain ⟨x,fz,m1,h1,h2,h3,h4⟩:=e6t hU h hr hev
     exact ⟨x,[],fz,m1,h1,h2,h3,(fun _ hh=>by cases hh),fun Z' hz hb=>⟨rfl,vs,hv,h4 Z' hz hb⟩⟩
    ·exact hev.elim
   ·exact hev.elim
 | bn f c=>
   simp only [d5b] at hev
   split at hev
   ·rename_i f' b0
    split at hev
    ·rename_i x hf hp
     have:=qC hf
     subst this
     obtain ⟨r,hv,hr⟩:=hx
     exact ⟨x,[],[],_,hev,fun _=>(fun _ _ hh=>by cases hh),(fun _ hh=>by cases hh),(fun _ hh=>by cases hh),fun Z' hz _=>⟨rfl,r,hv,a84 (X':=cz Z' w) (a15 hU c x).1 (b7e hU hp hr) rfl hz⟩⟩
    ·exact hev.elim
   ·exact hev.elim
 | km g0 t0=>
   simp only [d5b] at hev
   split at hev
   ·rename_i g' i
    obtain ⟨vs,hv,hvs⟩:=hx
    match vs,hvs with
    | [u1],hvs=>
      have h1:a18 (cx Z π σ w) (.ref i) u1:=hvs.1
      have hi:=h.mem i
      simp only [Q.Ev] at hev
      split at hev
      ·rename_i t' j hmi
       rw [hmi] at hi
       obtain ⟨bb,uu,hpi,hM,ha⟩:=hi
       have hj:=h.mem j
       simp only [Q.Ev] at hev
       split at hev
       ·rename_i l hmj
        rw [hmj] at hj
        obtain ⟨mb,hpj,hnd,hmo⟩:=hj
        split at hev
        ·rename_i hck
         simp only [qB] at hck
         have e1:=qC hck.1
         have e2:=qC hck.2
         subst e1;subst e2
         have huu:uu= .map (some mb):=by have:=ha.2.1;rw [this];exact hpj
         have hu1:u1= .pointer (some ⟨bb,0,none⟩):=by rw [h1.2.1];exact hpi
         have hcell:uu.cells.toList=[.map (some mb)]:=by rw [huu];rfl
         refine ⟨l,[],_,_,hev,(fun hnf=>by cases hnf),(fun q hh=> ?_),(fun _ hh=>by cases hh),fun Z' hz hb=>⟨rfl,bb,mb,by rw [hv,hu1],⟨hM.lt,fun hn=>hn (hb bb ⟨_,qI,?_⟩)⟩,⟨(qN.1 hmo).1,fun hn=>hn (hb mb ⟨_,qJ _ qI,?_⟩)⟩,by rw [<- hcell];exact hM,hnd,hmo⟩⟩
         ·simp only [qO,List.not_mem_nil,or_false] at hh
          rcases hh with rfl | rfl
          ·show σ.mem i≠ .never
           rw [hmi];intro h;cases h
          ·show σ.mem j≠ .never
           rw [hmj];intro h;cases h
         ·show MB (σ.mem i) (π i) bb
          rw [hmi,hpi];rfl
         ·show MB (σ.mem j) (π j) mb
          rw [hmj,hpj];rfl
        ·exact hev.elim
       ·exact hev.elim
      ·exact hev.elim
    | [],hvs=>exact hvs.elim
    | _::_::_,hvs=>exact hvs.2.elim
   ·exact hev.elim
 | vl g0 t0 c=>
   simp only [d5b] at hev
   split at hev
   ·rename_i g' i
    obtain ⟨vs,hv,hvs⟩:=hx
    match vs,hvs with
    | [u1],hvs=>
      have h1:a18 (cx Z π σ w) (.ref i) u1:=hvs.1
      have hi:=h.mem i
      simp only [Q.Ev] at hev
      split at hev
      ·rename_i t' b0 hmi
       rw [hmi] at hi
       obtain ⟨bb,uu,hpi,hM,ha⟩:=hi
       have hu1:u1= .pointer (some ⟨bb,0,none⟩):=by rw [h1.2.1];exact hpi
       have key: ∀(l:List (U.T c)) m1,(k l [] [(i,.dead)]).Ev σ m1 m v ws -> (Nat.beq g0 g'&&Nat.beq t0 t')=true -> j5 (Rp c) (cx Z π σ w).G w uu l -> ∃x i fz m1,(k x i fz).Ev σ m1 m v ws /\ (false=true -> FZ σ fz) /\ (∀q∈fz,σ.mem q.1≠ .never) /\ (∀id∈i,σ.mem id≠ .never) /\ ∀Z',(∀b,Z b -> Z' b) -> (∀b,b1r σ π fz b -> Z' b) -> AR σ π (cz Z' w) ua (.vl g0 t0 c) u x i:=by
        intro l m1 hev2 hck hr
        simp only [qB] at hck
        have e1:=qC hck.1
        have e2:=qC hck.2
        subst e1;subst e2
        have hcell:uu.cells.toList=[uu]:=b5b (c3j hr)
        refine ⟨l,[],_,_,hev2,(fun hnf=>by cases hnf),(fun q hh=> ?_),(fun _ hh=>by cases hh),fun Z' hz hb=>⟨rfl,bb,uu,by rw [hv,hu1],⟨hM.lt,fun hn=>hn (hb bb ⟨_,qI,?_⟩)⟩,by rw [<- hcell];exact hM,j5.weaken hr fun b _ hb hz'=>hb (hz b hz')⟩⟩
        ·simp only [qO,List.not_mem_nil,or_false] at hh
         subst hh
         show σ.mem i≠ .never
         rw [hmi];intro h;cases h
        ·show MB (σ.mem i) (π i) bb
         rw [hmi,hpi];rfl
       cases hck:(Nat.beq g0 g'&&Nat.beq t0 t') with
       | false=>rw [hck] at hev;cases b0<;>exact hev.elim
       | true=>
         rw [hck] at hev
         cases b0<;>try exact hev.elim
         ·exact key [] _ hev hck (.inl ⟨ha,rfl⟩)
         ·rename_i c' l'
          simp only [] at hev
          cases hl:b44 c l' with
          | none=>rw [hl] at hev;exact hev.elim
          | some l=>
            rw [hl] at hev
            obtain ⟨he,hx2⟩:=a2b (G:=noG) (w:=w) hl
            subst he;subst hx2
            exact key _ _ hev hck ha
      ·exact hev.elim
    | [],hvs=>exact hvs.elim
    | _::_::_,hvs=>exact hvs.2.elim
   ·rename_i g' t' c' l'
    split at hev
    ·rename_i l hbe hl
     simp only [qB] at hbe
     have e1:=qC hbe.1
     have e2:=qC hbe.2
     subst e1;subst e2
     obtain ⟨he,hx2⟩:=a2b (G:=noG) (w:=w) hl
     subst he;subst hx2
     obtain ⟨bb,sv,h1,⟨h2,h3⟩,h4,h5⟩:=hx
     exact ⟨_,[],[],_,hev,(fun hnf=>by cases hnf),(fun _ hh=>by cases hh),(fun _ hh=>by cases hh),fun Z' hz _=>⟨rfl,bb,sv,h1,⟨h2,fun hn=>h3 fun hzb=>hn (hz bb hzb)⟩,h4,j5.weaken h5 fun b _ hb hz'=>hb (hz b hz')⟩⟩
    ·exact hev.elim
   ·exact hev.elim
 | po b f e c=>
   simp only [d5b] at hev
   split at hev
   ·rename_i id
    simp only [Q.Ev] at hev
    split at hev
    ·rename_i e' c' l' hmem
     split at hev
     ·rename_i l hbe hl
      have h1:=qC hbe
      obtain ⟨he,hx2⟩:=a2b (G:=noG) (w:=w) hl
      subst he;subst hx2;subst h1
      exact ⟨_,[id],[],_,hev,fun _=>(fun _ _ hh=>by cases hh),(fun _ hh=>by cases hh),(fun q hh=>by simp at hh;subst hh;rw [hmem];intro h;cases h),fun Z' hz _=>⟨id,rfl,hx.2.1,hmem⟩⟩
     ·exact hev.elim
    ·exact hev.elim
   ·exact hev.elim
 | so e c=>
   simp only [d5b] at hev
   split at hev
   ·rename_i id
    simp only [Q.Ev] at hev
    split at hev
    ·rename_i e' c' l' hmem
     split at hev
     ·rename_i l hbe hl
      have h1:=qC hbe
      obtain ⟨he,hx2⟩:=a2b (G:=noG) (w:=w) hl
      subst he;subst hx2;subst h1
      exact ⟨_,[id],[],_,hev,fun _=>(fun _ _ hh=>by cases hh),(fun _ hh=>by cases hh),(fun q hh=>by simp at hh;subst hh;rw [hmem];intro h;cases h),fun Z' hz _=>⟨id,rfl,hx.2.1,hmem⟩⟩
     ·exact hev.elim
    ·exact hev.elim
   ·exact hev.elim
 | im t c mm=>
   simp only [d5b] at hev
   split at hev
   ·rename_i id
    simp only [Q.Ev] at hev
    split at hev
    ·rename_i t' c' fs hmem
     split at hev
     ·rename_i x hck hp
      simp only [qB] at hck
      have h1:=qC hck.1.1
      subst h1
      have h2:=b4x hck.1.2
      subst h2
      refine ⟨x,[id],[],_,hev,fun _=>(fun _ _ hh=>by cases hh),(fun _ hh=>by cases hh),(fun q hh=>by simp at hh;subst hh;rw [hmem];intro h;cases h),fun Z' hz _=>⟨id,fs,rfl,hx.2.1,hmem,hp,fun f k hk=> ?_⟩⟩
      have hmo:=List.all_eq_true.1 hck.2 _ hk
      dsimp only at hmo
      split at hmo
      ·rename_i i j hi hj
       have hij:=qC hmo
       subst hij
       obtain ⟨uk,huk,hrk⟩:=hall.get hj
       exact ⟨i,b5y hi,by rw [huk,hrk.2.1];rfl⟩
      ·cases hmo
     ·exact hev.elim
    ·exact hev.elim
   ·exact hev.elim
 | io t c=>
   simp only [d5b] at hev
   split at hev
   ·rename_i id
    simp only [Q.Ev] at hev
    split at hev
    ·rename_i t' b0 hmem
     split at hev
     ·rename_i hbe
      have h1:=qC hbe
      subst h1
      have hm:=h.mem id
      rw [hmem] at hm
      obtain ⟨x,fz,m1,hev,hf,blk,u1,hv,hM,hr⟩:=e7d hU h hm hev
      refine ⟨x,[id],fz,_,hev,fun _=>hf,(fun q hh=> ?_),(fun q hh=>by simp at hh;subst hh;rw [hmem];intro h;cases h),fun Z' hz hb=>⟨id,b0,rfl,hx.2.1,hmem,?_⟩⟩
      ·obtain ⟨e,c1,l1,h1,_⟩:=hf q.1 q.2 hh
       rw [h1];intro h;cases h
      ·obtain ⟨u2,hu2,hr2⟩:=a0k (X:=cz Z' w) (hr Z' hz hb)
       exact ⟨blk,u2,hx.2.1.trans hv,by rw [hu2];exact hM,hr2⟩
     ·exact hev.elim
    ·exact hev.elim
   ·exact hev.elim
theorem d86 (hU:UOK U) (h:Rel E Z π σ ρ w) {nf:Bool} {all:List U.AV} {ua:List Value} (hall:m7 (AVR (cx Z π σ w)) all ua): ∀{ps:List (PK U.C)} {as:List U.AV} {us:List Value} {k:Args U ps -> List (List Nat) -> List (Nat×U.MC) -> U.Q} {m0 m:Nat} {v:U.AV} {ws:List (Nat×U.MC)},m7 (AVR (cx Z π σ w)) as us -> (f0c nf all ps as k).Ev σ m0 m v ws ->
  ∃xs is fz m1,(k xs is fz).Ev σ m1 m v ws /\ (nf=true -> FZ σ fz) /\ (∀q∈fz,σ.mem q.1≠ .never) /\ (∀i∈is,∀id∈i,σ.mem id≠ .never) /\ ∀Z',(∀b,Z b -> Z' b) -> (∀b,b1r σ π fz b -> Z' b) -> ARs σ π (cz Z' w) ua ps us xs is
 | [],[],[],k,m0,m,v,ws,_,hev=>⟨(),[],[],m0,hev,fun _=>(fun _ _ hh=>by cases hh),(fun _ hh=>by cases hh),(fun _ hh=>by cases hh),fun _ _ _=>trivial⟩
 | p::ps,a::as,u::us,k,m0,m,v,ws,hx,hev=>by
   obtain ⟨x,i,fz,m1,hev,h1,h2,h3,h4⟩:=f3m hU h hall hx.1 hev
   obtain ⟨xs,is,fzs,m2,hev,g1,g2,g3,g4⟩:=d86 hU h hall hx.2 hev
   refine ⟨(x,xs),i::is,fz++fzs,m2,hev,fun hnf id m hh=> ?_,fun q hh=> ?_,fun j hj=> ?_,fun Z' hz hb=>⟨h4 Z' hz fun b ⟨q,hq,hb'⟩=>hb b ⟨q,List.mem_append_left _ hq,hb'⟩,g4 Z' hz fun b ⟨q,hq,hb'⟩=>hb b ⟨q,List.mem_append_right _ hq,hb'⟩⟩⟩
   ·rcases qK.1 hh with hh | hh
    ·exact h1 hnf id m hh
    ·exact g1 hnf id m hh
   ·rcases qK.1 hh with hh | hh
    ·exact h2 q hh
    ·exact g2 q hh
   ·rcases qO.1 hj with hj | hj
    ·subst hj;exact h3
    ·exact g3 j hj
 | [],_::_,_,_,_,_,_,_,_,hev=>hev.elim
 | _::_,[],_,_,_,_,_,_,_,hev=>hev.elim
 | [],[],_::_,_,_,_,_,_,hx,_=>hx.elim
 | _::_,_::_,[],_,_,_,_,_,hx,_=>hx.elim
theorem f2r (h:Rel E Z π σ ρ w): ∀{ps:List (PK U.C)} {as:List U.AV} {k:List U.AV -> U.Q} {m0 m:Nat} {v:U.AV} {ws:List (Nat×U.MC)},(e77 ps as k).Ev σ m0 m v ws -> ∃ex vs m1,m7 (AVR (cx Z π σ w)) ex vs /\ (k ex).Ev σ m1 m v ws:=by
 intro ps
 induction ps with
 | nil=>intro as k m0 m v ws hev;exact ⟨[],[],m0,trivial,by simpa [e77] using hev⟩
 | cons p ps ih=>
   intro as k m0 m v ws hev
   cases as with
   | nil=>
     have e:e77 (p::ps) [] k=k []:=by cases p<;>rfl
     rw [e] at hev
     exact ⟨[],[],m0,trivial,hev⟩
   | cons a as=>
     have skip:(e77 ps as k).Ev σ m0 m v ws -> ∃ex vs m1,m7 (AVR (cx Z π σ w)) ex vs /\ (k ex).Ev σ m1 m v ws:=fun h=>ih h
     cases p with
     | im t c mm=>
       cases a<;>try exact skip hev
       rename_i id
       have hm:=h.mem id
       have hev:(match σ.mem id with
        | .box _ (.st _ fs)=>e77 ps as fun r=>k ((mm.filterMap fun (q:Nat×Nat)=>(c0d fs q.1).map (AV.ref:Nat -> U.AV))++r)
        | _=> .fail).Ev σ (m0 ||| 2^(2*id+1)) m v ws:=hev
       split at hev
       ·rename_i t' c' fs hmem
        obtain ⟨ex,vs,m1,h1,h2⟩:=ih hev
        rw [hmem] at hm
        obtain ⟨blk,u,hv,hM,css,hu,hlay,hpp,hr⟩:=hm
        have hfld: ∀l:List (Nat×Nat),∃vs:List Value,m7 (AVR (cx Z π σ w)) (l.filterMap fun (q:Nat×Nat)=>(c0d fs q.1).map (AV.ref:Nat -> U.AV)) vs:=by
         intro l
         induction l with
         | nil=>exact ⟨[],trivial⟩
         | cons q l ih=>
           obtain ⟨vs,hvs⟩:=ih
           cases hra:c0d fs q.1 with
           | none=>exact ⟨vs,by simpa [List.filterMap_cons,hra] using hvs⟩
           | some i=>
             obtain ⟨s,hs,u1,hu1,hr1⟩:=hr.get (b5y hra)
             refine ⟨u1::vs,?_⟩
             simp only [List.filterMap_cons,hra,Option.map_some]
             exact ⟨hr1,hvs⟩
        obtain ⟨vs0,hvs0⟩:=hfld mm
        exact ⟨_,vs0++vs,m1,a5q hvs0 h1,h2⟩
       ·exact hev.elim
     | _=>exact skip (by cases a<;>exact hev)
end
end
end Go.SX
namespace Go.SX
open Go Go.PL
section
variable {P:Program} {U:Uni}
variable {E:Env} {Z:Nat -> Prop} {π:Nat -> Value} {σ:U.St} {ρ:Nat -> Value} {w:World}
variable {m0 m:Nat} {a b v:U.AV} {ws:List (Nat×U.MC)} {fr:Nat}
theorem s9 {k t:Nat} {a:U.AV} {l:List (Nat×U.AV)} {me:List (Nat×U.MC)} {nx:Nat}:St.slot ⟨(k,a)::l,me,nx⟩ t=if k=t then a else St.slot ⟨l,me,nx⟩ t:=by
 simp only [St.slot,lk]
 cases hk:Nat.beq k t with
 | true=>rw [if_pos (qC hk)];rfl
 | false=>rw [if_neg (Nat.ne_of_beq_eq_false hk)];rfl
theorem mem_cons {k t:Nat} {a:U.MC} {l:List (Nat×U.AV)} {me:List (Nat×U.MC)} {nx:Nat}:St.mem ⟨l,(k,a)::me,nx⟩ t=if k=t then a else St.mem ⟨l,me,nx⟩ t:=by
 simp only [St.mem,lk]
 cases hk:Nat.beq k t with
 | true=>rw [if_pos (qC hk)];rfl
 | false=>rw [if_neg (Nat.ne_of_beq_eq_false hk)];rfl
theorem f2x {X X':Cx} {a:U.AV} {u:Value} (hw:X'.w=X.w) (hz:X'.Z=X.Z) (h:a18 X (.rp a) u):a18 X' (.rp a) u:=by
 obtain ⟨ad,cs,hv,hb,hg,hca,hr⟩:=h
 have hG:X'.G=X.G:=by unfold Cx.G;rw [hz]
 exact ⟨ad,cs,hv,by rw [hw];exact hb,by rw [hG];exact hg,by rw [hw];exact hca,by rw [hG,hw];exact hr⟩
theorem e7b {X X':Cx} (hw:X'.w=X.w) (hz:X'.Z=X.Z): ∀(cs:List U.C) (x:CapT U cs) (vs:List Value),m7 (a18 X) (e2s cs x) vs -> m7 (a18 X') (e2s cs x) vs
 | [],_,[],_=>trivial
 | [],_,_::_,h=>h.elim
 | _::_,_,[],h=>h.elim
 | c::cs,(x,xs),u::us,h=>⟨f2x hw hz h.1,e7b hw hz cs xs us h.2⟩
theorem f2e (hU:UOK U) (h:Rel E Z π σ ρ w) {Zc:Nat -> Prop} {ρc:Nat -> Value} {X:Cx} (h1:X.Z=Zc) (h2:X.w=w) (h3:X.π=ρc) {all:List Value}: ∀(ps:List (PK U.C)) (k:Nat) (us:List Value) (xs:Args U ps) (is:List (List Nat)),ARs σ π (cz Zc w) all ps us xs is -> (∀(j:Nat) v,us[j]? =some v -> ρc (k+j)=v) -> (∀id,(u6 k ps xs).mem id≠ .never -> X.us id) ->
  ∀t,AVR X ((u6 k ps xs).slot t) (ρc t)
 | [],k,us,xs,is,_,_,_,t=>trivial
 | p::ps,k,[],xs,is,h,_,_,_=>h.elim
 | p::ps,k,u::us,(x,xs),[],h,_,_,_=>h.elim
 | p::ps,k,u::us,(x,xs),i::is,⟨ha,hr⟩,hρ,hus,t=>by
   have hk:ρc k=u:=by simpa using hρ 0 u rfl
   have ih:=f2e hU h h1 h2 h3 ps (k+1) us xs is hr (fun j v hv=>by have:=hρ (j+1) v (by simpa using hv);rwa [show k+(j+1)=k+1+j by omega] at this)
   have fld: ∀{c:U.C} {x:U.T c} {u:Value},a18 (cz Zc w) (inj c x) u -> AVR X (inj c x) u:=fun hh=>AVR.of1 (a84 (a15 hU _ _).1 hh h2 (by rw [h1];exact fun _ h=>h))
   cases p with
   | v c=>
     show AVR X (St.slot ⟨(k,inj c x)::(u6 (k+1) ps xs).sl,_,_⟩ t) _
     rw [s9]
     split
     ·rename_i e;subst e;rw [hk];exact fld ha.2
     ·exact ih hus t
   | ls c=>
     show AVR X (St.slot ⟨(k,.list c x)::(u6 (k+1) ps xs).sl,_,_⟩ t) _
     rw [s9]
     split
     ·rename_i e;subst e;rw [hk]
      show j5 (Rp c) X.G X.w u x
      unfold Cx.G;rw [h2,h1];exact ha.2
     ·exact ih hus t
   | rp ty c=>
     show AVR X (St.slot ⟨(k,.rp (inj c x))::(u6 (k+1) ps xs).sl,_,_⟩ t) _
     rw [s9]
     split
     ·rename_i e;subst e;rw [hk]
      obtain ⟨ad,cs,hv,hb,hg,hca,hr⟩:=ha.2
      refine ⟨ad,cs,hv,?_,?_,?_,?_⟩
      ·rw [h2];exact hb
      ·unfold Cx.G;rw [h1];exact hg
      ·rw [h2];exact hca
      ·unfold Cx.G;rw [h2,h1];exact hr
     ·exact ih hus t
   | ow e c=>
     have hus2: ∀id,(u6 (k+1) ps xs).mem id≠ .never -> X.us id:=fun id hid=>hus id (by
      show St.mem ⟨_,(k,.sl e c x)::(u6 (k+1) ps xs).me,_⟩ id≠_
      rw [mem_cons];split
      ·intro h;cases h
      ·exact hid)
     show AVR X (St.slot ⟨(k,.ref k)::(u6 (k+1) ps xs).sl,_,_⟩ t) _
     rw [s9]
     split
     ·rename_i e';subst e'
      refine ⟨hus k ?_,by rw [h3],?_⟩
      ·show St.mem ⟨_,(k,.sl e c x)::(u6 (k+1) ps xs).me,_⟩ k≠_
       rw [mem_cons,if_pos rfl];intro h;cases h
      ·rw [hk]
       rcases ha with ⟨_,hu,_⟩ | ⟨id,_,hu,hmem⟩
       ·rw [hu];rfl
       ·obtain ⟨ad,cap,hv⟩:=d4y h (.inl ⟨e,hmem⟩)
        rw [hu,hv];rfl
     ·exact ih hus2 t
   | io ty c=>
     have hus2: ∀id,(u6 (k+1) ps xs).mem id≠ .never -> X.us id:=fun id hid=>hus id (by
      show St.mem ⟨_,(k,.box ty (inj c x))::(u6 (k+1) ps xs).me,_⟩ id≠_
      rw [mem_cons];split
      ·intro h;cases h
      ·exact hid)
     show AVR X (St.slot ⟨(k,.ref k)::(u6 (k+1) ps xs).sl,_,_⟩ t) _
     rw [s9]
     split
     ·rename_i e';subst e'
      refine ⟨hus k ?_,by rw [h3],?_⟩
      ·show St.mem ⟨_,(k,.box ty (inj c x))::(u6 (k+1) ps xs).me,_⟩ k≠_
       rw [mem_cons,if_pos rfl];intro h;cases h
      ·rw [hk]
       obtain ⟨id,b,_,hu,hmem,_⟩:=ha
       have hm:=h.mem id
       rw [hmem] at hm
       obtain ⟨blk,u1,hv,_⟩:=hm
       rw [hu,hv];rfl
     ·exact ih hus2 t
   | im ty c m=>
     have hus2: ∀id,(u6 (k+1) ps xs).mem id≠ .never -> X.us id:=fun id hid=>hus id (by
      show St.mem ⟨_,(k,.box ty (.st c (b3u m (U.flds c x))))::(u6 (k+1) ps xs).me,_⟩ id≠_
      rw [mem_cons];split
      ·intro h;cases h
      ·exact hid)
     show AVR X (St.slot ⟨(k,.ref k)::(u6 (k+1) ps xs).sl,_,_⟩ t) _
     rw [s9]
     split
     ·rename_i e';subst e'
      refine ⟨hus k ?_,by rw [h3],?_⟩
      ·show St.mem ⟨_,(k,.box ty (.st c (b3u m (U.flds c x))))::(u6 (k+1) ps xs).me,_⟩ k≠_
       rw [mem_cons,if_pos rfl];intro h;cases h
      ·rw [hk]
       obtain ⟨id,fs,_,hu,hmem,_⟩:=ha
       have hm:=h.mem id
       rw [hmem] at hm
       obtain ⟨blk,u1,hv,_⟩:=hm
       rw [hu,hv];rfl
     ·exact ih hus2 t
   | so e c=>
     have hus2: ∀id,(u6 (k+1) ps xs).mem id≠ .never -> X.us id:=fun id hid=>hus id (by
      show St.mem ⟨_,(k,.sl e c x)::(u6 (k+1) ps xs).me,_⟩ id≠_
      rw [mem_cons];split
      ·intro h;cases h
      ·exact hid)
     show AVR X (St.slot ⟨(k,.ref k)::(u6 (k+1) ps xs).sl,_,_⟩ t) _
     rw [s9]
     split
     ·rename_i e';subst e'
      refine ⟨hus k ?_,by rw [h3],?_⟩
      ·show St.mem ⟨_,(k,.sl e c x)::(u6 (k+1) ps xs).me,_⟩ k≠_
       rw [mem_cons,if_pos rfl];intro h;cases h
      ·rw [hk]
       obtain ⟨id,_,hu,hmem⟩:=ha
       obtain ⟨ad,cap,hv⟩:=d4y h (.inl ⟨e,hmem⟩)
       rw [hu,hv];rfl
     ·exact ih hus2 t
   | po b f e c=>
     have hus2: ∀id,(u6 (k+1) ps xs).mem id≠ .never -> X.us id:=fun id hid=>hus id (by
      show St.mem ⟨_,(k,.sl e c x)::(u6 (k+1) ps xs).me,_⟩ id≠_
      rw [mem_cons];split
      ·intro h;cases h
      ·exact hid)
     exact ih hus2 t
   | cl f cs=>
     show AVR X (St.slot ⟨(k,.clo f (e2s cs x))::(u6 (k+1) ps xs).sl,_,_⟩ t) _
     rw [s9]
     split
     ·rename_i e;subst e;rw [hk]
      obtain ⟨_,vs,hv,hr⟩:=ha
      exact ⟨vs,hv,e7b (by rw [h2];rfl) (by rw [h1];rfl) cs x vs hr⟩
     ·exact ih hus t
   | bn f c=>
     show AVR X (St.slot ⟨(k,.bnd f (inj c x))::(u6 (k+1) ps xs).sl,_,_⟩ t) _
     rw [s9]
     split
     ·rename_i e;subst e;rw [hk]
      obtain ⟨_,r,hv,hr⟩:=ha
      exact ⟨r,hv,a84 (a15 hU _ _).1 hr h2 (by rw [h1];exact fun _ h=>h)⟩
     ·exact ih hus t
   | km g0 t0=>
     show AVR X (St.slot ⟨(k,.km g0 t0 x)::(u6 (k+1) ps xs).sl,_,_⟩ t) _
     rw [s9]
     split
     ·rename_i e;subst e;rw [hk]
      obtain ⟨_,bb,mb,hv,⟨q1,q2⟩,⟨q3,q4⟩,q5,q6,q7⟩:=ha
      exact ⟨bb,mb,hv,⟨by rw [h2];exact q1,by unfold Cx.G;rw [h1];exact q2⟩,⟨by rw [h2];exact q3,by unfold Cx.G;rw [h1];exact q4⟩,by rw [h2];exact q5,q6,by rw [h2];exact q7⟩
     ·exact ih hus t
   | vl g0 t0 c=>
     show AVR X (St.slot ⟨(k,.vl g0 t0 c x)::(u6 (k+1) ps xs).sl,_,_⟩ t) _
     rw [s9]
     split
     ·rename_i e;subst e;rw [hk]
      obtain ⟨_,bb,sv,hv,⟨q1,q2⟩,q5,q6⟩:=ha
      exact ⟨bb,sv,hv,⟨by rw [h2];exact q1,by unfold Cx.G;rw [h1];exact q2⟩,by rw [h2];exact q5,by unfold Cx.G;rw [h2,h1];exact q6⟩
     ·exact ih hus t
theorem f3r (hU:UOK U) (h:Rel E Z π σ ρ w) {Zc:Nat -> Prop} (hz: ∀b,Z b -> Zc b) {ρc:Nat -> Value} {X:Cx} (h1:X.Z=Zc) (h2:X.w=w) (h3:X.π=ρc) {all:List Value} (hall: ∀k u,all[k]? =some u -> ρc k=u): ∀(ps:List (PK U.C)) (k:Nat) (us:List Value) (xs:Args U ps) (is:List (List Nat)),ARs σ π (cz Zc w) all ps us xs is -> (∀(j:Nat) v,us[j]? =some v -> ρc (k+j)=v) -> (∀t c m q,.im t c m∈ps -> q∈m -> X.us q.2) ->
  (∀id,MR X ((u6 k ps xs).mem id) (ρc id)) /\ ∀i b,MB ((u6 k ps xs).mem i) (ρc i) b -> ∃j id,i=k+j /\ is[j]? =some [id] /\ MB (σ.mem id) (π id) b
 | [],k,us,xs,is,_,_,_=>⟨fun _=>trivial,fun _ _ h=>h.elim⟩
 | p::ps,k,[],xs,is,h,_,_=>h.elim
 | p::ps,k,u::us,(x,xs),[],h,_,_=>h.elim
 | p::ps,k,u::us,(x,xs),i::is,⟨ha,hr⟩,hρ,hmu=>by
   have hk:ρc k=u:=by simpa using hρ 0 u rfl
   obtain ⟨ih1,ih2⟩:=f3r hU h hz h1 h2 h3 hall ps (k+1) us xs is hr (fun j v hv=>by have:=hρ (j+1) v (by simpa using hv);rwa [show k+(j+1)=k+1+j by omega] at this) (fun t c m q hm hq=>hmu t c m q (qJ _ hm) hq)
   have ih2': ∀i' b,MB ((u6 (k+1) ps xs).mem i') (ρc i') b -> ∃j id,i'=k+j /\ (i::is)[j]? =some [id] /\ MB (σ.mem id) (π id) b:=fun i' b hb=>by
    obtain ⟨j,id,e,h3,h4⟩:=ih2 i' b hb
    exact ⟨j+1,id,by omega,by simpa using h3,h4⟩
   cases p with
   | v c=>exact ⟨ih1,ih2'⟩
   | ls c=>exact ⟨ih1,ih2'⟩
   | rp ty c=>exact ⟨ih1,ih2'⟩
   | ow e c=>
     refine ⟨fun id=> ?_,fun i' b hb=> ?_⟩
     ·show MR X (St.mem ⟨_,(k,.sl e c x)::(u6 (k+1) ps xs).me,_⟩ id) _
      rw [mem_cons]
      split
      ·rename_i e';subst e'
       rw [hk]
       rcases ha with ⟨_,hu,hl⟩ | ⟨id,_,hu,hmem⟩
       ·subst hl;rw [hu];exact ⟨[],Own.nil _ _ _ _ _,trivial⟩
       ·have hm:=h.mem id
        rw [hmem] at hm
        obtain ⟨css,hO,hr⟩:=hm
        refine ⟨css,by rw [hu,h2];exact hO,hr.mono fun r xv hh=> ?_⟩
        rw [h2];unfold Cx.G;rw [h1]
        exact (Rp c).weaken hh fun b _ hb hz'=>hb (hz b hz')
      ·exact ih1 id
     ·have hb:MB (St.mem ⟨(u6 k (.ow e c::ps) (x,xs)).sl,(k,.sl e c x)::(u6 (k+1) ps xs).me,(u6 (k+1) ps xs).nx⟩ i') (ρc i') b:=hb
      rw [mem_cons] at hb
      split at hb
      ·rename_i e';subst e'
       rw [hk] at hb
       rcases ha with ⟨_,hu,hl⟩ | ⟨id,hi,hu,hmem⟩
       ·rw [hu] at hb;cases hb
       ·refine ⟨0,id,by omega,by rw [hi];rfl,?_⟩
        rw [hmem,<- hu];exact hb
      ·exact ih2' i' b hb
   | io ty c=>
     refine ⟨fun id=> ?_,fun i' b hb=> ?_⟩
     ·show MR X (St.mem ⟨_,(k,.box ty (inj c x))::(u6 (k+1) ps xs).me,_⟩ id) _
      rw [mem_cons]
      split
      ·rename_i e';subst e'
       rw [hk]
       obtain ⟨id,b,_,hu,hmem,blk,u1,hv,hM,hr⟩:=ha
       exact ⟨blk,u1,hv,by rw [h2];exact hM,a84 (X':=X) (a15 hU c x).1 hr h2 (by rw [h1];exact fun _ hb=>hb)⟩
      ·exact ih1 id
     ·have hb:MB (St.mem ⟨(u6 k (.io ty c::ps) (x,xs)).sl,(k,.box ty (inj c x))::(u6 (k+1) ps xs).me,(u6 (k+1) ps xs).nx⟩ i') (ρc i') b:=hb
      rw [mem_cons] at hb
      split at hb
      ·rename_i e';subst e'
       rw [hk] at hb
       obtain ⟨id,b0,hi,hu,hmem,hp⟩:=ha
       refine ⟨0,id,by omega,by rw [hi];rfl,?_⟩
       rw [hmem,<- hu];exact hb
      ·exact ih2' i' b hb
   | cl f cs=>exact ⟨ih1,ih2'⟩
   | bn f c=>exact ⟨ih1,ih2'⟩
   | km f t=>exact ⟨ih1,ih2'⟩
   | vl f t c=>exact ⟨ih1,ih2'⟩
   | po b0 f e c=>
     refine ⟨fun id=> ?_,fun i' b hb=> ?_⟩
     ·show MR X (St.mem ⟨_,(k,.sl e c x)::(u6 (k+1) ps xs).me,_⟩ id) _
      rw [mem_cons]
      split
      ·rename_i e';subst e'
       rw [hk]
       obtain ⟨id,_,hu,hmem⟩:=ha
       have hm:=h.mem id
       rw [hmem] at hm
       obtain ⟨css,hO,hr⟩:=hm
       refine ⟨css,by rw [hu,h2];exact hO,hr.mono fun r xv hh=> ?_⟩
       rw [h2];unfold Cx.G;rw [h1]
       exact (Rp c).weaken hh fun b _ hb hz'=>hb (hz b hz')
      ·exact ih1 id
     ·have hb:MB (St.mem ⟨(u6 k (.po b0 f e c::ps) (x,xs)).sl,(k,.sl e c x)::(u6 (k+1) ps xs).me,(u6 (k+1) ps xs).nx⟩ i') (ρc i') b:=hb
      rw [mem_cons] at hb
      split at hb
      ·rename_i e';subst e'
       rw [hk] at hb
       obtain ⟨id,hi,hu,hmem⟩:=ha
       refine ⟨0,id,by omega,by rw [hi];rfl,?_⟩
       rw [hmem,<- hu];exact hb
      ·exact ih2' i' b hb
   | so e c=>
     refine ⟨fun id=> ?_,fun i' b hb=> ?_⟩
     ·show MR X (St.mem ⟨_,(k,.sl e c x)::(u6 (k+1) ps xs).me,_⟩ id) _
      rw [mem_cons]
      split
      ·rename_i e';subst e'
       rw [hk]
       obtain ⟨id,_,hu,hmem⟩:=ha
       have hm:=h.mem id
       rw [hmem] at hm
       obtain ⟨css,hO,hr⟩:=hm
       refine ⟨css,by rw [hu,h2];exact hO,hr.mono fun r xv hh=> ?_⟩
       rw [h2];unfold Cx.G;rw [h1]
       exact (Rp c).weaken hh fun b _ hb hz'=>hb (hz b hz')
      ·exact ih1 id
     ·have hb:MB (St.mem ⟨(u6 k (.so e c::ps) (x,xs)).sl,(k,.sl e c x)::(u6 (k+1) ps xs).me,(u6 (k+1) ps xs).nx⟩ i') (ρc i') b:=hb
      rw [mem_cons] at hb
      split at hb
      ·rename_i e';subst e'
       rw [hk] at hb
       obtain ⟨id,hi,hu,hmem⟩:=ha
       refine ⟨0,id,by omega,by rw [hi];rfl,?_⟩
       rw [hmem,<- hu];exact hb
      ·exact ih2' i' b hb
   | im ty c m=>
     refine ⟨fun id=> ?_,fun i' b hb=> ?_⟩
     ·show MR X (St.mem ⟨_,(k,.box ty (.st c (b3u m (U.flds c x))))::(u6 (k+1) ps xs).me,_⟩ id) _
      rw [mem_cons]
      split
      ·rename_i e';subst e'
       rw [hk]
       obtain ⟨id,fs,_,hu,hmem,hp,hmm⟩:=ha
       have hm:=h.mem id
       rw [hmem] at hm
       obtain ⟨blk,u1,hv,hM,css,hu1,hlay,hpp,hr⟩:=hm
       obtain ⟨k1,k2,k3⟩:=c77 hU (X:=cx Z π σ w) (X':=X) hlay hpp hr hp h2 (by rw [h1];exact hz) fun j jd hj=>by
        obtain ⟨j',hj1,hj2⟩:=hmm j jd hj
        exact ⟨j',hj1,hmu ty c m _ qI hj,by rw [h3];exact hall _ _ hj2⟩
       exact ⟨blk,u1,by rw [hu];exact hv,by rw [h2];exact hM,css,hu1,k1,k2,k3⟩
      ·exact ih1 id
     ·have hb:MB (St.mem ⟨(u6 k (.im ty c m::ps) (x,xs)).sl,(k,.box ty (.st c (b3u m (U.flds c x))))::(u6 (k+1) ps xs).me,(u6 (k+1) ps xs).nx⟩ i') (ρc i') b:=hb
      rw [mem_cons] at hb
      split at hb
      ·rename_i e';subst e'
       rw [hk] at hb
       obtain ⟨id,fs,hi,hu,hmem,hp,_⟩:=ha
       refine ⟨0,id,by omega,by rw [hi];rfl,?_⟩
       rw [hmem,<- hu];exact hb
      ·exact ih2' i' b hb
theorem b4g: ∀{l:List (List Nat)},b9x l=true -> ∀(i j:Nat) (p q:List Nat) (a b:Nat),l[i]? =some p -> l[j]? =some q -> a∈p -> b∈q -> i≠j -> a≠b
 | [],_,i,j,p,q,a,b,hi,_,_,_,_=>by simp at hi
 | p0::l,h,i,j,p,q,a,b,hi,hj,ha,hb,hne=>by
   simp only [b9x,qB] at h
   have cross: ∀(p q:List Nat) (j a b:Nat),p=p0 -> l[j]? =some q -> a∈p -> b∈q -> a≠b:=by
    intro p q j a b hp hj2 ha2 hb2 e
    subst e
    rw [hp] at ha2
    have h1:=List.all_eq_true.1 (List.all_eq_true.1 (List.all_eq_true.1 h.1 a ha2) q (qE hj2)) a hb2
    simp at h1
   cases i with
   | zero=>cases j with
     | zero=>exact absurd rfl hne
     | succ j=>exact cross p q j a b (by simpa using hi.symm) (by simpa using hj) ha hb
   | succ i=>cases j with
     | zero=>exact fun e=>cross q p i b a (by simpa using hj.symm) (by simpa using hi) hb ha e.symm
     | succ j=>exact b4g h.2 i j p q a b (by simpa using hi) (by simpa using hj) ha hb (fun e=>hne (by rw [e]))
def memK {C:Type}:PK C -> Bool
 | .ow _ _ | .io _ _ | .im _ _ _ | .po _ _ _ _ | .so _ _=>true
 | _=>false
theorem b8k: ∀(ps:List (PK U.C)) (k:Nat) (xs:Args U ps) (id:Nat) (p:PK U.C),ps[id-k]? =some p -> memK p=true -> k <= id -> b39 (u6 k ps xs) id
 | [],k,xs,id,p,h,_,_=>by simp at h
 | p0::ps,k,(x,xs),id,p,h,hp,hk=>by
   have step:id≠k -> b39 (u6 (k+1) ps xs) id:=fun hne=>by
    rw [show id-k=(id-(k+1))+1 by omega] at h
    exact b8k ps (k+1) xs id p (by simpa using h) hp (by omega)
   have go: ∀(mc:U.MC) (sl:List (Nat×U.AV)) (nx:Nat),mc≠ .never -> (id≠k -> b39 (u6 (k+1) ps xs) id) -> St.mem ⟨sl,(k,mc)::(u6 (k+1) ps xs).me,nx⟩ id≠ .never:=fun mc sl nx hmc hs=>by
    rw [mem_cons]
    split
    ·exact hmc
    ·rename_i hne;exact hs (Ne.symm hne)
   by_cases hid:id=k
   ·subst hid
    simp at h
    subst h
    cases p0<;>first
     | (cases hp;done)
     | exact go _ _ _ (fun h=>by cases h) step
   ·have h1:=step hid
    cases p0<;>first
     | exact h1
     | exact go _ _ _ (fun h=>by cases h) step
theorem e9z (ps:List (PK U.C)) (xs:Args U ps) (id:Nat) (h:b50 ps id):b39 (u6 0 ps xs) id:=by
 rcases h with ⟨t,c,h⟩ | ⟨t,c,m,h⟩ | ⟨e,c,h⟩
 ·exact b8k ps 0 xs id _ (by rwa [Nat.sub_zero]) rfl (Nat.zero_le _)
 ·exact b8k ps 0 xs id _ (by rwa [Nat.sub_zero]) rfl (Nat.zero_le _)
 ·exact b8k ps 0 xs id _ (by rwa [Nat.sub_zero]) rfl (Nat.zero_le _)
theorem d4w: ∀(ps:List (PK U.C)) (k:Nat) (xs:Args U ps) (t:Nat),(u6 k ps xs).slot t= .unk \/ ∃p,k <= t /\ ps[t-k]? =some p /\ c6n p=false
 | [],k,xs,t=> .inl rfl
 | p0::ps,k,(x,xs),t=>by
   have step:(u6 (k+1) ps xs).slot t= .unk \/ ∃p,k <= t /\ (p0::ps)[t-k]? =some p /\ c6n p=false:=by
    rcases d4w ps (k+1) xs t with h | ⟨p,h1,h2,h3⟩
    ·exact .inl h
    ·refine .inr ⟨p,by omega,?_,h3⟩
     rw [show t-k=(t-(k+1))+1 by omega];simpa using h2
   have go: ∀(a:U.AV) (me:List (Nat×U.MC)) (nx:Nat),c6n p0=false -> St.slot ⟨(k,a)::(u6 (k+1) ps xs).sl,me,nx⟩ t= .unk \/ ∃p,k <= t /\ (p0::ps)[t-k]? =some p /\ c6n p=false:=fun a me nx hp=>by
    rw [s9]
    split
    ·rename_i e;subst e
     exact .inr ⟨p0,Nat.le_refl _,by simp,hp⟩
    ·exact step
   cases p0<;>first
    | exact go _ _ _ rfl
    | exact step
theorem b94 {all:List (PK U.C)}: ∀(ps:List (PK U.C)) (i:Nat),b6e all i ps=true -> ∀t c m q,.im t c m∈ps -> q∈m -> ∃b f e c',all[q.2]? =some (.po b f e c')
 | [],i,_,t,c,m,q,h,_=>by cases h
 | p0::ps,i,h,t,c,m,q,hm,hq=>by
   have step:b6e all (i+1) ps=true:=by
    cases p0<;>first
     | exact h
     | (simp only [b6e,qB] at h;exact h.2)
   rcases qO.1 hm with e | e
   ·subst e
    simp only [b6e,qB] at h
    have h1:=List.all_eq_true.1 h.1 q hq
    split at h1
    ·rename_i b f e c' hx;exact ⟨b,f,e,c',hx⟩
    ·cases h1
   ·exact b94 ps (i+1) step t c m q e hq
theorem d7h {ps:List (PK U.C)} (h:f3o ps=true) {t:Nat} {p:PK U.C} (hp:ps[t]? =some p) (hn:c6n p=false):t<npK ps:=by
 rcases Nat.lt_or_ge t (npK ps) with h1 | h1
 ·exact h1
 ·have:p∈ps.drop (npK ps):=by
   refine qE (i:=t-npK ps) ?_
   rw [List.getElem?_drop,show npK ps+(t-npK ps)=t by omega];exact hp
  have:=List.all_eq_true.1 h p this
  rw [hn] at this;cases this
theorem d7w (hU:UOK U) (h:Rel E Z π σ ρ w) {fz:List (Nat×U.MC)} {ps:List (PK U.C)} {us:List Value} {xs:Args U ps} {is:List (List Nat)} {ρc ρs:Nat -> Value} (hmi:b1c ps=true) (hs: ∀t,t<npK ps -> ρs t=ρc t) (hfn: ∀q∈fz,σ.mem q.1≠ .never)
  (hA: ∀Z',(∀b,Z b -> Z' b) -> (∀b,b1r σ π fz b -> Z' b) -> ARs σ π (cz Z' w) us ps us xs is) (hap:b9x (is++[fz.map (·.1)])=true) (hρ: ∀(j:Nat) v,us[j]? =some v -> ρc j=v):
  Rel ⟨w,fun b=> ∃i∈is,∃id∈i,MB (σ.mem id) (π id) b,fun b=>Z b \/ b1r σ π fz b,b50 ps,ρc⟩ (fun b=>Z b \/ b1r σ π fz b) ρc (u6 0 ps xs) ρs w:=by
 unfold b1c at hmi
 simp only [qB] at hmi
 have hAR:=hA (fun b=>Z b \/ b1r σ π fz b) (fun b h=> .inl h) (fun b h=> .inr h)
 have hρ': ∀(j:Nat) v,us[j]? =some v -> ρc (0+j)=v:=by simpa using hρ
 obtain ⟨hB,hC⟩:=f3r hU h (fun b hb=>Or.inl hb) (X:=cx (fun b=>Z b \/ b1r σ π fz b) ρc (u6 0 ps xs) w) rfl rfl rfl hρ ps 0 us xs is hAR hρ' (fun t c m q hm hq=>by
  obtain ⟨b,f,e,c',hx⟩:=b94 ps 0 hmi.1 t c m q hm hq
  exact b8k ps 0 xs q.2 _ (by rw [Nat.sub_zero];exact hx) rfl (Nat.zero_le _))
 refine ⟨fun t=> ?_,hB,fun id b hb=> ?_,fun id id' b hne hb hb'=> ?_,fun b hb=> ?_,fun b hb=> .inl hb,fun b hb=>hb,Ext.refl _ _,fun id hp=>⟨e9z ps xs id hp,rfl⟩,h.tabw hU,fun b hb=>⟨Nat.lt_of_lt_of_le (h.tab.2 b hb).1 h.ext.size,?_⟩⟩
 ·rcases d4w ps 0 xs t with h0 | ⟨p,_,h1,h2⟩
  ·rw [h0];trivial
  ·rw [hs t (d7h hmi.2 (by simpa using h1) h2)]
   exact f2e hU h rfl rfl rfl ps 0 us xs is hAR hρ' (fun _ h=>h) t
 ·obtain ⟨j,id0,_,hj,hb0⟩:=hC id b hb
  obtain ⟨h1,h2,_⟩:=h.own id0 b hb0
  refine ⟨?_,h2,.inl ⟨_,qE hj,id0,by simp,hb0⟩⟩
  rintro (hz | ⟨q,hq,hbq⟩)
  ·exact h1 hz
  ·have hne:id0≠q.1:=by
    refine b4g hap j is.length [id0] (fz.map (·.1)) id0 q.1 ?_ ?_ (by simp) (List.mem_map_of_mem hq) ?_
    ·rw [List.getElem?_append_left (qD.1 hj).1];exact hj
    ·simp
    ·exact Nat.ne_of_lt (qD.1 hj).1
   exact h.dist id0 q.1 b hne hb0 hbq
 ·obtain ⟨j,i0,e,hj,hb0⟩:=hC id b hb
  obtain ⟨j',i0',e',hj',hb0'⟩:=hC id' b hb'
  have hjj:j≠j':=by omega
  have hne:i0≠i0':=by
   refine b4g hap j j' [i0] [i0'] i0 i0' ?_ ?_ (by simp) (by simp) hjj
   ·rw [List.getElem?_append_left (qD.1 hj).1];exact hj
   ·rw [List.getElem?_append_left (qD.1 hj').1];exact hj'
  exact h.dist i0 i0' b hne hb0 hb0'
 ·rcases hb with hb | ⟨q,hq,hb⟩
  ·exact h.zlt b hb
  ·exact (h.own q.1 b hb).2.1
 ·rintro ⟨i,_,id,_,hb'⟩
  have h1:=(h.own id b hb').2.2
  have h2:=h.tab.2 b hb
  rcases h1 with h1 | h1
  ·exact h2.2 h1
  ·omega
end
end Go.SX
namespace Go.SX
open Go Go.PL
section
variable {P:Program} {U:Uni}
variable {E:Env} {Z:Nat -> Prop} {π:Nat -> Value} {σ:U.St} {ρ:Nat -> Value} {w:World}
variable {m0 m:Nat} {a b v:U.AV} {ws:List (Nat×U.MC)} {fr:Nat}
theorem e5c (hU:UOK U) {X X':Cx} {c:U.C} {x:U.T c} (hf:U.flat c=true) {u:Value} (h:a18 X (inj c x) u):a18 X' (inj c x) u:=by
 unfold inj at h⊢
 cases ha:U.ag c with
 | true=>
   rw [ha] at h
   obtain ⟨cs,hu,hr⟩:=h
   exact ⟨cs,hu,c7n hU hf hr⟩
 | false=>
   rw [ha] at h
   have hfl:=hU.flat c x hf
   cases hl:U.flds c x with
   | nil=>trivial
   | cons a r=>cases r with
     | cons _ _=>trivial
     | nil=>
       rw [hl] at h hfl
       simp only [List.all_cons,List.all_nil,Bool.and_true] at hfl
       have hlay:=hU.lay c x
       rw [hU.sc c ha,hl] at hlay
       cases a<;>first
        | exact h
        | (cases hfl;done)
        | (simp [u9] at hlay)
def e6m (nf:Bool) (X X':Cx):Prop:=X'.w=X.w /\ (nf=true -> ∀b,X.Z b -> X'.Z b)
theorem d3q (hU:UOK U) {nf:Bool} {X X':Cx} (hL:e6m nf X X') {c:U.C} {x:U.T c} (hf:nf=false -> U.flat c=true) {u:Value} (h:a18 X (inj c x) u):a18 X' (inj c x) u:=by
 cases nf with
 | true=>exact a84 (a15 hU c x).1 h hL.1 (hL.2 rfl)
 | false=>exact e5c hU (hf rfl) h
theorem d0v (hU:UOK U) {nf:Bool} {X X':Cx} (hL:e6m nf X X') {e:TypeId} {c:U.C} {l:List (U.T c)} (hf:nf=false -> U.flat c=true) {u:Value} (h:MR X (.sl e c l) u):MR X' (.sl e c l) u:=by
 obtain ⟨css,hO,hr⟩:=h
 refine ⟨css,by rw [hL.1];exact hO,hr.mono fun r x hh=> ?_⟩
 cases nf with
 | true=>rw [hL.1];exact (Rp c).weaken hh fun b _ hb hz=>hb (hL.2 rfl b hz)
 | false=>exact c7n hU (hf rfl) hh
theorem d4q (hU:UOK U) {nf:Bool} {X X':Cx} (hL:e6m nf X X') {t:TypeId} {c:U.C} {x:U.T c} (hf:nf=false -> U.flat c=true) {u:Value} (h:MR X (.box t (inj c x)) u):MR X' (.box t (inj c x)) u:=by
 obtain ⟨b,u1,hv,hM,hr⟩:=h
 exact ⟨b,u1,hv,by rw [hL.1];exact hM,d3q hU hL hf hr⟩
theorem c4k (hU:UOK U) {nf:Bool} {X X':Cx} (hL:e6m nf X X'): ∀(rs:List (RK U.C)) (fr:Nat) (xs:Ress U rs) (us:List Value),(nf=false -> rs.all e1q=true) -> RRs X rs xs us ->
  m7 (fun (q:Nat×U.MC) u=>MR X' q.2 u /\ q.2≠ .never) (c5d fr rs xs).2 (b8m rs us) /\ (∀(p:Nat) q,(c5d fr rs xs).2[p]? =some q -> q.1=fr+p) /\
  ((∀(p:Nat) u,(b8m rs us)[p]? =some u -> X'.us (fr+p) /\ X'.π (fr+p)=u) -> m7 (a18 X') (c5d fr rs xs).1 us)
 | [],fr,xs,[],_,_=>⟨trivial,fun p q h=>by simp [c5d] at h,fun _=>trivial⟩
 | r::rs,fr,xs,[],_,h=>h.elim
 | [],fr,xs,_::_,_,h=>h.elim
 | .v c::rs,fr,(x,xs),u::us,hf,h=>by
   obtain ⟨h1,h2,h3⟩:=c4k hU hL rs fr xs us (fun e=>by have:=hf e;simp only [List.all_cons,qB] at this;exact this.2) h.2
   exact ⟨h1,h2,fun hh=>⟨d3q hU hL (fun e=>by have:=hf e;simp only [List.all_cons,qB] at this;exact this.1) h.1,h3 hh⟩⟩
 | .ls c::rs,fr,(x,xs),u::us,hf,h=>by
   obtain ⟨h1,h2,h3⟩:=c4k hU hL rs fr xs us (fun e=>by have:=hf e;simp only [List.all_cons,qB] at this;exact this.2) h.2
   refine ⟨h1,h2,fun hh=>⟨?_,h3 hh⟩⟩
   cases nf with
   | false=>have:=hf rfl;simp only [List.all_cons,qB] at this;cases this.1
   | true=>
     show j5 (Rp c) X'.G X'.w u x
     rw [hL.1]
     exact j5.weaken h.1 fun b _ hb hz=>hb (hL.2 rfl b hz)
 | .ow e c::rs,fr,(x,xs),u::us,hf,h=>by
   obtain ⟨h1,h2,h3⟩:=c4k hU hL rs (fr+1) xs us (fun e=>by have:=hf e;simp only [List.all_cons,qB] at this;exact this.2) h.2
   have hsl:=d0v hU hL (fun e=>by have:=hf e;simp only [List.all_cons,qB] at this;exact this.1) h.1
   refine ⟨⟨⟨hsl,fun h=>by cases h⟩,h1⟩,fun p q hq=> ?_,fun hh=>⟨?_,h3 fun p u' hu'=> ?_⟩⟩
   ·cases p with
    | zero=>have hq:some (fr,MC.sl e c x)=some q:=hq;cases hq;rfl
    | succ p=>have:=h2 p q hq;omega
   ·obtain ⟨hu,hp⟩:=hh 0 u rfl
    obtain ⟨css,hO,_⟩:=hsl
    obtain ⟨ad,cap,hv,_⟩:=hO.shape
    exact ⟨hu,hp.symm,by rw [hv];rfl⟩
   ·have:=hh (p+1) u' hu'
    rwa [show fr+(p+1)=fr+1+p by omega] at this
 | .bo t c::rs,fr,(some x,xs),u::us,hf,h=>by
   obtain ⟨h1,h2,h3⟩:=c4k hU hL rs (fr+1) xs us (fun e=>by have:=hf e;simp only [List.all_cons,qB] at this;exact this.2) h.2
   have hbx:=d4q hU hL (fun e=>by have:=hf e;simp only [List.all_cons,qB] at this;exact this.1) h.1
   refine ⟨⟨⟨hbx,fun h=>by cases h⟩,h1⟩,fun p q hq=> ?_,fun hh=>⟨?_,h3 fun p u' hu'=> ?_⟩⟩
   ·cases p with
    | zero=>have hq:some (fr,MC.box t (inj c x))=some q:=hq;cases hq;rfl
    | succ p=>have:=h2 p q hq;omega
   ·obtain ⟨hu,hp⟩:=hh 0 u rfl
    obtain ⟨bk,u1,hv,_⟩:=hbx
    exact ⟨hu,hp.symm,by rw [hv];rfl⟩
   ·have:=hh (p+1) u' hu'
    rwa [show fr+(p+1)=fr+1+p by omega] at this
 | .bo t c::rs,fr,(none,xs),u::us,hf,h=>by
   obtain ⟨h1,h2,h3⟩:=c4k hU hL rs (fr+1) xs us (fun e=>by have:=hf e;simp only [List.all_cons,qB] at this;exact this.2) h.2
   refine ⟨⟨⟨trivial,fun h=>by cases h⟩,h1⟩,fun p q hq=> ?_,fun hh=>⟨h.1,h3 fun p u' hu'=> ?_⟩⟩
   ·cases p with
    | zero=>have hq:some (fr,MC.dead)=some q:=hq;cases hq;rfl
    | succ p=>have:=h2 p q hq;omega
   ·have:=hh (p+1) u' hu'
    rwa [show fr+(p+1)=fr+1+p by omega] at this
theorem e63 (hU:UOK U) {X X':Cx} {a:U.AV} (hf:f1w a=true) {u:Value} (h:b37 X a u):b37 X' a u:=by
 cases a<;>first
  | (cases hf;done)
  | exact h
  | (obtain ⟨cs,hu,hr⟩:=h
     exact ⟨cs,hu,c7n hU hf hr⟩)
theorem d3h (g:Nat -> Nat): ∀(m:List (Nat×Nat)) (l:List U.AV) (j:Nat),(∃k,(j,k)∈m /\ (j<l.length -> (b3u m l)[j]? =some (.ref k) /\ (b3u (m.map fun q=>(q.1,g q.2)) l)[j]? =some (.ref (g k)))) \/ ((b3u m l)[j]? =l[j]? /\ (b3u (m.map fun q=>(q.1,g q.2)) l)[j]? =l[j]?)
 | [],l,j=> .inr ⟨rfl,rfl⟩
 | q::m,l,j=>by
   by_cases hq:q.1=j
   ·left
    subst hq
    exact ⟨q.2,qI,fun hj=>by simp [b3u,b2k,hj]⟩
   ·rcases d3h g m l j with ⟨k,h1,h2⟩ | ⟨h1,h2⟩
    ·left
     refine ⟨k,qJ _ h1,fun hj=> ?_⟩
     simp only [b3u,List.map_cons]
     rw [List.getElem?_set_ne hq,List.getElem?_set_ne hq];exact h2 hj
    ·right
     simp only [b3u,List.map_cons]
     rw [List.getElem?_set_ne hq,List.getElem?_set_ne hq]
     exact ⟨h1,h2⟩
theorem d3x: ∀(m:List (Nat×Nat)) (l:List U.AV) (j k:Nat),(j,k)∈m -> j<l.length -> ∃k',(b3u m l)[j]? =some (.ref k')
 | q::m,l,j,k,h,hj=>by
   simp only [b3u]
   by_cases e:q.1=j
   ·exact ⟨q.2,by rw [e,List.getElem?_set_self (by rw [b2k];exact hj)]⟩
   ·rw [List.getElem?_set_ne e]
    exact d3x m l j k ((qO.1 h).resolve_left fun hh=>e (by rw [<- hh])) hj
theorem f0k (hU:UOK U) {nf:Bool} {X X':Cx} (hL:e6m nf X X') {t:TypeId} {c:U.C} {x:U.T c} {m:List (Nat×Nat)} (g:Nat -> Nat) (hf:nf=false -> c30 (.im t c m:PK U.C)=true) {u:Value} (hm: ∀q∈m,X'.us (g q.2) /\ X'.π (g q.2)=X.π q.2) (h:MR X (.box t (.st c (b3u m (U.flds c x)))) u):MR X' (.box t (.st c (b3u (m.map fun q=>(q.1,g q.2)) (U.flds c x)))) u:=by
 obtain ⟨b,u1,hv,hM,css,hu,hlay,hpp,hr⟩:=h
 have hkd:=hU.kind c x
 have hat: ∀(j:Nat) (a:U.AV),(b3u (m.map fun q=>(q.1,g q.2)) (U.flds c x))[j]? =some a -> ∃a0,(b3u m (U.flds c x))[j]? =some a0 /\ u9 a=u9 a0 /\ u7 a=true /\ ∀u,b37 X a0 u -> b37 X' a u:=by
  intro j a ha
  have hj:j<(U.flds c x).length:=by
   have:=(qD.1 ha).1
   rwa [b2k] at this
  rcases d3h g m (U.flds c x) j with ⟨k,h1,h2⟩ | ⟨h1,h2⟩
  ·obtain ⟨h3,h4⟩:=h2 hj
   rw [h4] at ha
   cases ha
   refine ⟨_,h3,rfl,rfl,fun u hu=> ?_⟩
   obtain ⟨k1,k2⟩:=hm _ h1
   obtain ⟨_,k4,k5⟩:=hu
   exact ⟨k1,by rw [k2];exact k4,k5⟩
  ·rw [h2] at ha
   have hka:b4v a=true:=List.all_eq_true.1 hkd a (qE ha)
   have hpa:u7 a=true:=by cases a<;>first | rfl | cases hka
   refine ⟨a,by rw [h1];exact ha,rfl,hpa,fun u hu=> ?_⟩
   cases nf with
   | true=>exact a18.to0 hpa (a84 hka (.of0 hu) hL.1 (hL.2 rfl))
   | false=>
     have hf:=hf rfl
     simp only [c30,Bool.or_eq_true,qB,List.any_eq_true] at hf
     rcases hf with hf | ⟨hl,q,hq,h0⟩
     ·exact e63 hU (List.all_eq_true.1 (hU.flat c x hf) a (qE ha)) hu
     ·have h0:=qC h0
      have h3:=congrArg List.length (hU.lay c x)
      unfold e6z at hl
      split at hl
      case h_2=>cases hl
      rename_i hl'
      rw [hl',List.length_map] at h3
      have:j=0:=by have:j<1:=by rw [h3] at hj;exact hj
                   omega
      subst this
      obtain ⟨k',hk'⟩:=d3x m (U.flds c x) 0 q.2 (by rw [<- h0];exact hq) hj
      rw [h1,ha] at hk'
      cases hk'
      cases hka
 have hlen:(b3u (m.map fun q=>(q.1,g q.2)) (U.flds c x)).length=(b3u m (U.flds c x)).length:=by rw [b2k,b2k]
 refine ⟨b,u1,hv,by rw [hL.1];exact hM,css,hu,?_,?_,?_⟩
 ·rw [<- hlay]
  apply List.ext_getElem?
  intro j
  rw [List.getElem?_map,List.getElem?_map]
  cases ha:(b3u (m.map fun q=>(q.1,g q.2)) (U.flds c x))[j]? with
  | some a=>
    obtain ⟨a0,h1,h2,_⟩:=hat j a ha
    rw [h1];simp [h2]
  | none=>
    have:(b3u (m.map fun q=>(q.1,g q.2)) (U.flds c x)).length <= j:=List.getElem?_eq_none_iff.1 ha
    rw [hlen] at this
    rw [List.getElem?_eq_none this]
 ·rw [List.all_eq_true]
  intro a ha
  obtain ⟨j,hj⟩:=List.getElem?_of_mem ha
  exact (hat j a hj).choose_spec.2.2.1
 ·refine m7.of_get (by rw [hlen];exact hr.length) fun j a s ha hs=> ?_
  obtain ⟨a0,h1,_,_,h2⟩:=hat j a ha
  obtain ⟨s',hs',u,hu,hru⟩:=hr.get h1
  rw [hs] at hs'
  cases hs'
  exact ⟨u,hu,h2 u hru⟩
theorem e4k {m:U.MC} {v:Value} {b:Nat} (h:MB m v b):hdV v=some b:=by
 cases m<;>first | exact h | exact h.elim
theorem d89 (hU:UOK U) {nf:Bool} {X X':Cx} (hL:e6m nf X X') {Xc:Cx} {b:Nat} {all ua:List Value}: ∀(ps:List (PK U.C)) (k:Nat) (xs:Args U ps) (is:List (List Nat)) (os:Outs U ps) (us us':List Value),(nf=false -> ps.all c30=true) -> ARs σ π Xc all ps us xs is -> OR X ps os us' -> (∀(i:Nat) (p:PK U.C),ps[i]? =some p -> c6n p=false -> us'[i]? =us[i]?) -> (∀(i:Nat) u,us'[i]? =some u -> ua[k+i]? =some u) -> (∀t c m q,.im t c m∈ps -> q∈m -> X'.us (b+q.2) /\ X'.π (b+q.2)=X.π q.2) ->
  m7 (fun (q:Nat×U.MC) u=>MR X' q.2 u /\ q.2≠ .never /\ ((u=π q.1 /\ σ.mem q.1≠ .never) \/ ∃j,q.1=b+k+j /\ ua[k+j]? =some u /\ ∃p,ps[j]? =some p /\ c6n p=true)) (b2s b k ps is os) (ioB ps us')
 | [],k,xs,[],os,[],[],_,_,_,_,_,_=>trivial
 | [],k,xs,is,os,_::_,us',_,h,_,_,_,_=>by cases is<;>exact h.elim
 | [],k,xs,_::_,os,[],us',_,h,_,_,_,_=>h.elim
 | [],k,xs,[],os,[],_::_,_,_,h,_,_,_=>h.elim
 | _::_,k,xs,is,os,[],us',_,h,_,_,_,_=>by cases is<;>exact h.elim
 | _::_,k,(x,xs),[],os,_::_,us',_,h,_,_,_,_=>h.elim
 | p::ps,k,(x,xs),i::is,os,u::us,[],hf,h,hO,_,_,_=>by cases p<;>exact hO.elim
 | p::ps,k,(x,xs),i::is,os,u::us,u'::us',hf,h,hO,hsame,hua,hmu=>by
   have hf':nf=false -> c30 p=true /\ ps.all c30=true:=fun e=>by have:=hf e;simpa only [List.all_cons,qB] using this
   have hrec: ∀os',OR X ps os' us' -> m7 (fun (q:Nat×U.MC) u=>MR X' q.2 u /\ q.2≠ .never /\ ((u=π q.1 /\ σ.mem q.1≠ .never) \/ ∃j,q.1=b+k+j /\ ua[k+j]? =some u /\ ∃p0,(p::ps)[j]? =some p0 /\ c6n p0=true)) (b2s b (k+1) ps is os') (ioB ps us'):=fun os' hO'=>by
    have:=d89 hU hL ps (k+1) xs is os' us us' (fun e=>(hf' e).2) h.2 hO' (fun i p hp hn=>by have:=hsame (i+1) p (by simpa using hp) hn;simpa using this) (fun i v hv=>by have:=hua (i+1) v (by simpa using hv);rwa [show k+(i+1)=k+1+i by omega] at this) (fun t c m q hm hq=>hmu t c m q (qJ _ hm) hq)
    refine this.mono fun q v ⟨h1,h2,h3⟩=>⟨h1,h2,?_⟩
    rcases h3 with h3 | ⟨j,e1,e2,p0,e3,e4⟩
    ·exact .inl h3
    ·exact .inr ⟨j+1,by omega,by rwa [show k+(j+1)=k+1+j by omega],p0,by simpa using e3,e4⟩
   have same:c6n p=false -> u'=u:=fun hn=>by have:=hsame 0 p rfl hn;simpa using this
   cases p with
   | v c=>exact hrec os hO
   | ls c=>exact hrec os hO
   | rp t c=>exact hrec os hO
   | ow e c=>exact hrec os hO
   | cl f cs=>exact hrec os hO
   | bn f c=>exact hrec os hO
   | km f t=>exact hrec os hO
   | vl f t c=>exact hrec os hO
   | io t c=>
     obtain ⟨o,os⟩:=os
     obtain ⟨id,b0,hi,hu,hmem,hp⟩:=h.1
     subst hi
     refine ⟨⟨d4q hU hL (fun e=>(hf' e).1) hO.1,(fun h=>by cases h),.inl ⟨by rw [same rfl];exact hu,?_⟩⟩,hrec os hO.2⟩
     show σ.mem id≠ .never
     rw [hmem];intro h;cases h
   | im t c m=>
     obtain ⟨o,os⟩:=os
     obtain ⟨id,fs,hi,hu,hmem,hp,_⟩:=h.1
     subst hi
     refine ⟨⟨f0k hU hL (b+ ·) (fun e=>(hf' e).1) (fun q hq=>hmu t c m q qI hq) hO.1,(fun h=>by cases h),.inl ⟨by rw [same rfl];exact hu,?_⟩⟩,hrec os hO.2⟩
     show σ.mem id≠ .never
     rw [hmem];intro h;cases h
   | so e c=>
     obtain ⟨o,os⟩:=os
     obtain ⟨id,hi,hu,hmem⟩:=h.1
     subst hi
     refine ⟨⟨d0v hU hL (fun e=>(hf' e).1) hO.1,(fun h=>by cases h),.inl ⟨by rw [same rfl];exact hu,?_⟩⟩,hrec os hO.2⟩
     show σ.mem id≠ .never
     rw [hmem];intro h;cases h
   | po b0 f e c=>
     obtain ⟨o,os⟩:=os
     exact ⟨⟨d0v hU hL (fun e=>(hf' e).1) hO.1,(fun h=>by cases h),.inr ⟨0,by simp,hua 0 u' rfl,_,rfl,rfl⟩⟩,hrec os hO.2⟩
theorem a7q {Xc:Cx} {b:Nat} {all:List Value}: ∀(ps:List (PK U.C)) (k:Nat) (xs:Args U ps) (is:List (List Nat)) (os:Outs U ps) (us:List Value),ARs σ π Xc all ps us xs is -> ∀i∈is,∀id∈i,(∃m,(id,m)∈b2s b k ps is os) \/ id∈d1q ps is
 | [],k,xs,[],os,[],_,i,hi,_,_=>by cases hi
 | [],k,xs,_::_,os,[],h,_,_,_,_=>h.elim
 | [],k,xs,is,os,_::_,h,_,_,_,_=>by cases is<;>exact h.elim
 | _::_,k,xs,is,os,[],h,_,_,_,_=>by cases is<;>exact h.elim
 | _::_,k,(x,xs),[],os,_::_,h,_,_,_,_=>h.elim
 | p::ps,k,(x,xs),i0::is,os,u::us,h,i,hi,id,hid=>by
   rcases qO.1 hi with e | hi
   ·subst e
    cases p with
    | v c=>rw [h.1.1] at hid;cases hid
    | ls c=>rw [h.1.1] at hid;cases hid
    | rp t c=>rw [h.1.1] at hid;cases hid
    | cl f cs=>rw [h.1.1] at hid;cases hid
    | bn f c=>rw [h.1.1] at hid;cases hid
    | km f t=>rw [h.1.1] at hid;cases hid
    | vl f t c=>rw [h.1.1] at hid;cases hid
    | ow e c=>exact .inr (List.mem_append_left _ hid)
    | po b0 f e c=>exact .inr (List.mem_append_left _ hid)
    | io t c=>obtain ⟨o,os⟩:=os;exact .inl ⟨_,List.mem_append_left _ (List.mem_map_of_mem hid)⟩
    | so e c=>obtain ⟨o,os⟩:=os;exact .inl ⟨_,List.mem_append_left _ (List.mem_map_of_mem hid)⟩
    | im t c m=>obtain ⟨o,os⟩:=os;exact .inl ⟨_,List.mem_append_left _ (List.mem_map_of_mem hid)⟩
   ·cases p with
    | v c=>exact a7q ps (k+1) xs is os us h.2 i hi id hid
    | ls c=>exact a7q ps (k+1) xs is os us h.2 i hi id hid
    | rp t c=>exact a7q ps (k+1) xs is os us h.2 i hi id hid
    | cl f cs=>exact a7q ps (k+1) xs is os us h.2 i hi id hid
    | bn f c=>exact a7q ps (k+1) xs is os us h.2 i hi id hid
    | km f t=>exact a7q ps (k+1) xs is os us h.2 i hi id hid
    | vl f t c=>exact a7q ps (k+1) xs is os us h.2 i hi id hid
    | ow e c=>exact (a7q ps (k+1) xs is os us h.2 i hi id hid).imp_right fun h1=>List.mem_append_right _ h1
    | po b0 f e c=>
      obtain ⟨o,os⟩:=os
      rcases a7q ps (k+1) xs is os us h.2 i hi id hid with ⟨m,h1⟩ | h1
      ·exact .inl ⟨m,qJ _ h1⟩
      ·exact .inr (List.mem_append_right _ h1)
    | io t c=>
      obtain ⟨o,os⟩:=os
      rcases a7q ps (k+1) xs is os us h.2 i hi id hid with ⟨m,h1⟩ | h1
      ·exact .inl ⟨m,List.mem_append_right _ h1⟩
      ·exact .inr h1
    | so e c=>
      obtain ⟨o,os⟩:=os
      rcases a7q ps (k+1) xs is os us h.2 i hi id hid with ⟨m,h1⟩ | h1
      ·exact .inl ⟨m,List.mem_append_right _ h1⟩
      ·exact .inr h1
    | im t c m=>
      obtain ⟨o,os⟩:=os
      rcases a7q ps (k+1) xs is os us h.2 i hi id hid with ⟨m,h1⟩ | h1
      ·exact .inl ⟨m,List.mem_append_right _ h1⟩
      ·exact .inr h1
theorem e4r {X:Cx} {vs:List U.AV} {us:List Value} (h:m7 (a18 X) vs us):AVR X (f5v vs) (f1h us):=by
 match vs,us,h with
 | [],[],h=>exact ⟨[],rfl,trivial⟩
 | [a],[u],h=>exact AVR.of1 h.1
 | a::a'::vs,u::u'::us,h=>exact ⟨_,rfl,h⟩
 | [],_::_,h=>exact h.elim
 | _::_,[],h=>exact h.elim
 | [a],u::u'::us,h=>exact h.2.elim
 | a::a'::vs,[u],h=>exact h.2.elim
end
end Go.SX
namespace Go.SX
open Go Go.PL
section
variable {P:Program} {U:Uni}
variable {E:Env} {Z:Nat -> Prop} {π:Nat -> Value} {σ:U.St} {ρ:Nat -> Value} {w:World}
variable {m0 m:Nat} {a b v:U.AV} {ws:List (Nat×U.MC)} {fr:Nat}
theorem b0a {α:Type} {t:Nat} {l r:List (Nat×α)} {a:α} (h:(t,a)∈l \/ (t,a)∈r): ∃m,lk t (l++r)=some m:=by
 have key: ∀{l:List (Nat×α)} {a:α},(t,a)∈l -> ∃m,lk t l=some m:=by
  intro l
  induction l with
  | nil=>intro a h;cases h
  | cons q l ih=>
    intro a h
    show∃m,(bif Nat.beq q.1 t then some q.2 else lk t l)=some m
    cases hk:Nat.beq q.1 t with
    | true=>exact ⟨_,rfl⟩
    | false=>
      rcases qO.1 h with e | e
      ·rw [<- e] at hk;exact absurd rfl (Nat.ne_of_beq_eq_false hk)
      ·exact ih e
 exact key (qK.2 h)
theorem d4s: ∀(rs:List (RK U.C)) (us:List Value),(b8m rs us).length <= rs.length
 | [],us=>by cases us<;>simp [b8m]
 | r::rs,[]=>by cases r<;>simp [b8m]
 | r::rs,u::us=>by
   have:=d4s rs us
   cases r<;>simp [b8m]<;>omega
theorem b0t {b:Nat}: ∀(ps:List (PK U.C)) (k:Nat) (is:List (List Nat)) (os:Outs U ps),∀q∈b2s b k ps is os,q.2≠ .never
 | [],k,is,os,q,h=>by cases is<;>cases h
 | p::ps,k,[],os,q,h=>by cases p<;>cases h
 | p::ps,k,i::is,os,q,h=>by
   cases p with
   | v c=>exact b0t ps (k+1) is os q h
   | ls c=>exact b0t ps (k+1) is os q h
   | rp t c=>exact b0t ps (k+1) is os q h
   | ow e c=>exact b0t ps (k+1) is os q h
   | cl f cs=>exact b0t ps (k+1) is os q h
   | bn f c=>exact b0t ps (k+1) is os q h
   | km f t=>exact b0t ps (k+1) is os q h
   | vl f t c=>exact b0t ps (k+1) is os q h
   | io t c=>
     obtain ⟨o,os⟩:=os
     rcases qK.1 h with h | h
     ·obtain ⟨id,_,e⟩:=List.mem_map.1 h
      rw [<- e];intro h;cases h
     ·exact b0t ps (k+1) is os q h
   | so e c=>
     obtain ⟨o,os⟩:=os
     rcases qK.1 h with h | h
     ·obtain ⟨id,_,e⟩:=List.mem_map.1 h
      rw [<- e];intro h;cases h
     ·exact b0t ps (k+1) is os q h
   | im t c m=>
     obtain ⟨o,os⟩:=os
     rcases qK.1 h with h | h
     ·obtain ⟨id,_,e⟩:=List.mem_map.1 h
      rw [<- e];intro h;cases h
     ·exact b0t ps (k+1) is os q h
   | po b0 f e c=>
     obtain ⟨o,os⟩:=os
     rcases qO.1 h with h | h
     ·rw [h];intro h;cases h
     ·exact b0t ps (k+1) is os q h
theorem d8f {b:Nat} {Xc:Cx} {all:List Value}: ∀(ps:List (PK U.C)) (k:Nat) (us:List Value) (xs:Args U ps) (is:List (List Nat)) (os:Outs U ps),ARs σ π Xc all ps us xs is -> ∀(j:Nat) (p:PK U.C),ps[j]? =some p -> c6n p=true -> ∃m,(b+k+j,m)∈b2s b k ps is os
 | [],k,us,xs,is,os,_,j,p,h,_=>by simp at h
 | _::_,k,[],xs,is,os,h,_,_,_,_=>by cases is<;>exact h.elim
 | _::_,k,_::_,(x,xs),[],os,h,_,_,_,_=>h.elim
 | p0::ps,k,u::us,(x,xs),i::is,os,h,j,p,hp,hn=>by
   have go: ∀os',0<j -> ∃m,(b+k+j,m)∈b2s b (k+1) ps is os':=fun os' hj=>by
    obtain ⟨m,hm⟩:=d8f ps (k+1) us xs is os' h.2 (j-1) p (by rw [show j=(j-1)+1 by omega] at hp;simpa using hp) hn
    exact ⟨m,by rwa [show b+(k+1)+(j-1)=b+k+j by omega] at hm⟩
   have pos:c6n p0=false -> 0<j:=fun hn0=>by
    rcases Nat.eq_zero_or_pos j with e | e
    ·subst e;simp at hp;subst hp;rw [hn] at hn0;cases hn0
    ·exact e
   cases p0 with
   | v c=>exact go os (pos rfl)
   | ls c=>exact go os (pos rfl)
   | rp t c=>exact go os (pos rfl)
   | ow e c=>exact go os (pos rfl)
   | cl f cs=>exact go os (pos rfl)
   | bn f c=>exact go os (pos rfl)
   | km f t=>exact go os (pos rfl)
   | vl f t c=>exact go os (pos rfl)
   | io t c=>obtain ⟨o,os⟩:=os;obtain ⟨m,hm⟩:=go os (pos rfl);exact ⟨m,List.mem_append_right _ hm⟩
   | so e c=>obtain ⟨o,os⟩:=os;obtain ⟨m,hm⟩:=go os (pos rfl);exact ⟨m,List.mem_append_right _ hm⟩
   | im t c m0=>obtain ⟨o,os⟩:=os;obtain ⟨m,hm⟩:=go os (pos rfl);exact ⟨m,List.mem_append_right _ hm⟩
   | po b0 f e c=>
     obtain ⟨o,os⟩:=os
     rcases Nat.eq_zero_or_pos j with e | e
     ·subst e;exact ⟨_,qI⟩
     ·obtain ⟨m,hm⟩:=go os e;exact ⟨m,qJ _ hm⟩
theorem e4u {fr n j:Nat} {ps:List (PK U.C)} {p:PK U.C} (hp:ps[j]? =some p) (hn:c6n p=true):fr+n+j∈f5r fr n ps:=by
 unfold f5r
 rw [List.mem_filterMap]
 refine ⟨j,List.mem_range.2 (qD.1 hp).1,?_⟩
 rw [hp]
 simp [hn]
theorem c8d (hU:UOK U) (h:Rel E Z π σ ρ w) {s:Sig U} {fz:List (Nat×U.MC)} {us:List Value} {xs:Args U s.ps} {is:List (List Nat)} {r:Ress U s.rs×Outs U s.ps} {u:Value} {w':World} {d:Option Tmp}
  (hfz:s.nf=true -> FZ σ fz) (hfn: ∀q∈fz,σ.mem q.1≠ .never) (hin: ∀i∈is,∀id∈i,σ.mem id≠ .never) (hA: ∀Z',(∀b,Z b -> Z' b) -> (∀b,b1r σ π fz b -> Z' b) -> ARs σ π (cz Z' w) us s.ps us xs is) (hap:b9x (is++[fz.map (·.1)])=true) (hmi:b1c s.ps=true)
  (hnev: ∀i∈(c5d fr s.rs r.1).2.map (·.1),σ.mem i= .never) (hnev2: ∀i∈f5r fr s.rs.length s.ps,σ.mem i= .never)
  (hP:Post s (fun b=>Z b \/ b1r σ π fz b) (fun b=> ∃i∈is,∃id∈i,MB (σ.mem id) (π id) b) w us r u w'):
  ∃Z' π',Rel E Z' π' (σ.app d (f5v (c5d fr s.rs r.1).1) ((c5d fr s.rs r.1).2++(b2s (fr+s.rs.length) 0 s.ps is r.2++(((d1q s.ps is).map fun id=>(id,.dead))++match s.nf with | true=>fz | false=>[])))) (a9j ρ d u) w':=by
 obtain ⟨Z1,us1,ua,hu,hz1,hz2,hE,hlu,hsame,hRR,hOR,hown,hdist⟩:=hP
 subst hu
 unfold b1c at hmi
 simp only [qB] at hmi
 have hARs:=hA (fun b=>Z b \/ b1r σ π fz b) (fun b h=> .inl h) (fun b h=> .inr h)
 obtain ⟨bb,hbb⟩: ∃bb:Nat,bb=fr+s.rs.length:=⟨_,rfl⟩
 rw [<- hbb]
 obtain ⟨ws,hws⟩: ∃ws:List (Nat×U.MC),ws=(c5d fr s.rs r.1).2++(b2s bb 0 s.ps is r.2++(((d1q s.ps is).map fun id=>(id,.dead))++match s.nf with | true=>fz | false=>[])):=⟨_,rfl⟩
 rw [<- hws]
 obtain ⟨Z2,hZ2⟩: ∃Z2:Nat -> Prop,Z2=(match s.nf with | true=>Z1 | false=>Z):=⟨_,rfl⟩
 obtain ⟨isp,hisp⟩: ∃isp:Nat -> Bool,isp=fun k=>(match s.ps[k]? with | some p=>c6n p | none=>false):=⟨_,rfl⟩
 obtain ⟨π2,hπ2⟩: ∃π2:Nat -> Value,π2=fun id=>if fr <= id /\ id-fr<(b8m s.rs us1).length then (b8m s.rs us1).getD (id-fr) undef else if bb <= id /\ isp (id-bb)=true then ua.getD (id-bb) undef else π id:=⟨_,rfl⟩
 have hZ2le: ∀b,Z2 b -> Z1 b:=by
  intro b hb
  rw [hZ2] at hb
  cases hnf:s.nf<;>rw [hnf] at hb
  ·exact hz1 b (.inl hb)
  ·exact hb
 have hZle: ∀b,Z b -> Z2 b:=by
  intro b hb
  rw [hZ2]
  cases hnf:s.nf
  ·exact hb
  ·exact hz1 b (.inl hb)
 obtain ⟨X2,hX2⟩: ∃X2:Cx,X2=cx Z2 π2 (σ.app d (f5v (c5d fr s.rs r.1).1) ws) w':=⟨_,rfl⟩
 have hL:e6m s.nf (cz Z1 w') X2:=by
  rw [hX2]
  refine ⟨rfl,fun hnf b hb=> ?_⟩
  show Z2 b
  rw [hZ2,hnf];exact hb
 have hL':e6m s.nf (czO Z1 s.ps ua w') X2:=hL
 have hnfr:s.nf=false -> s.rs.all e1q=true:=fun e=>by
  unfold Sig.nf at e
  simp only [Bool.not_eq_eq_eq_not,Bool.not_false,qB] at e;exact e.1
 have hnfp:s.nf=false -> s.ps.all c30=true:=fun e=>by
  unfold Sig.nf at e
  simp only [Bool.not_eq_eq_eq_not,Bool.not_false,qB] at e;exact e.2
 obtain ⟨hm1,hm2,hm3⟩:=c4k hU hL s.rs fr r.1 us1 hnfr hRR
 have hlenms:(c5d fr s.rs r.1).2.length=(b8m s.rs us1).length:=m7.length hm1
 have hrl:=d4s s.rs us1
 have hfresh: ∀p,p<(b8m s.rs us1).length -> σ.mem (fr+p)= .never:=by
  intro p hp
  have hp':p<(c5d fr s.rs r.1).2.length:=by rw [hlenms];exact hp
  have h1:=hm2 p _ (qG hp')
  have:=hnev ((c5d fr s.rs r.1).2[p]).1 (List.mem_map_of_mem (List.getElem_mem hp'))
  rw [h1] at this;exact this
 have hfresh2: ∀k,isp k=true -> σ.mem (bb+k)= .never:=by
  intro k hk
  rw [hisp] at hk
  dsimp only at hk
  split at hk
  ·rename_i p hp
   rw [hbb]
   exact hnev2 _ (e4u hp hk)
  ·cases hk
 have hπu: ∀id,σ.mem id≠ .never -> π2 id=π id:=by
  intro id hid
  rw [hπ2]
  show (if _ then _ else if _ then _ else _)=_
  rw [if_neg,if_neg]
  ·rintro ⟨h1,h2⟩
   apply hid
   have:=hfresh2 (id-bb) h2
   rwa [show bb+(id-bb)=id by omega] at this
  ·rintro ⟨h1,h2⟩
   apply hid
   have:=hfresh (id-fr) h2
   rwa [show fr+(id-fr)=id by omega] at this
 have hπn: ∀(p:Nat) (u:Value),(b8m s.rs us1)[p]? =some u -> π2 (fr+p)=u:=by
  intro p u hu
  have hp:p<(b8m s.rs us1).length:=(qD.1 hu).1
  rw [hπ2]
  show (if _ then _ else _)=_
  rw [if_pos ⟨by omega,by omega⟩,show fr+p-fr=p by omega]
  simp [hu]
 have hπo: ∀k,isp k=true -> π2 (bb+k)=ua.getD k undef:=by
  intro k hk
  rw [hπ2]
  show (if _ then _ else if _ then _ else _)=_
  rw [if_neg (by omega),if_pos ⟨by omega,by rw [show bb+k-bb=k by omega];exact hk⟩,show bb+k-bb=k by omega]
 have hwsnn: ∀q∈ws,q.2≠ .never:=by
  intro q hq
  rw [hws] at hq
  rcases qK.1 hq with hm | hm
  ·obtain ⟨p,hp⟩:=List.getElem?_of_mem hm
   obtain ⟨u,hu,hu2,hu3⟩:=hm1.get hp
   exact hu3
  ·rcases qK.1 hm with hm | hm
   ·exact b0t _ _ _ _ q hm
   ·rcases qK.1 hm with hm | hm
    ·obtain ⟨i,hi,he⟩:=List.mem_map.1 hm
     rw [<- he];intro h;cases h
    ·cases hnf:s.nf with
     | true=>
       rw [hnf] at hm
       obtain ⟨e,c,l,_,e2⟩:=hfz hnf q.1 q.2 hm
       rw [e2];intro h;cases h
     | false=>rw [hnf] at hm;cases hm
 have hmu: ∀t c m q,.im t c m∈s.ps -> q∈m -> X2.us (bb+q.2) /\ X2.π (bb+q.2)=(czO Z1 s.ps ua w').π q.2:=by
  intro t c m q hm hq
  obtain ⟨b,f,e,c',hx⟩:=b94 s.ps 0 hmi.1 t c m q hm hq
  have hk:isp q.2=true:=by rw [hisp];dsimp only;rw [hx];rfl
  rw [hX2]
  refine ⟨?_,hπo q.2 hk⟩
  show (σ.app d _ ws).mem (bb+q.2)≠ .never
  rw [m5]
  obtain ⟨m',hm'⟩:=d8f (b:=bb) (σ:=σ) (π:=π) s.ps 0 us xs is r.2 hARs q.2 _ hx rfl
  have: ∃mc,lk (bb+q.2) ws=some mc:=by
   rw [hws]
   exact b0a (a:=m') (.inr (List.mem_append_left _ (by simpa using hm')))
  obtain ⟨mc,hl⟩:=this
  rw [hl]
  exact hwsnn _ (a98 hl)
 have ho1:=d89 hU hL' (b:=bb) (ua:=ua) s.ps 0 xs is r.2 us ua hnfp hARs hOR hsame (fun i u hu=>by simpa using hu) hmu
 have hcls: ∀id mc,lk id ws=some mc -> (∃(p:Nat) (u:Value),(b8m s.rs us1)[p]? =some u /\ id=fr+p /\ MR X2 mc u /\ π2 id=u) \/ (∃(p:Nat) (u:Value),(ioB s.ps ua)[p]? =some u /\ (b2s bb 0 s.ps is r.2)[p]? =some (id,mc) /\ MR X2 mc u /\ π2 id=u) \/ mc= .dead \/ (s.nf=true /\ (id,mc)∈fz):=by
  intro id mc hl
  have hmem:=a98 hl
  rw [hws] at hmem
  rcases qK.1 hmem with hm | hm
  ·obtain ⟨p,hp⟩:=List.getElem?_of_mem hm
   obtain ⟨u,hu,hu2,hu3⟩:=hm1.get hp
   have e:=hm2 p _ hp
   exact .inl ⟨p,u,hu,e,hu2,by rw [show id=fr+p from e];exact hπn p u hu⟩
  ·rcases qK.1 hm with hm | hm
   ·obtain ⟨p,hp⟩:=List.getElem?_of_mem hm
    obtain ⟨u,hu,h1,h2,h3⟩:=ho1.get hp
    refine .inr (.inl ⟨p,u,hu,hp,h1,?_⟩)
    rcases h3 with ⟨e1,e2⟩ | ⟨j,e1,e2,p0,e3,e4⟩
    ·rw [hπu id e2];exact e1.symm
    ·have e1:id=bb+j:=by simpa using e1
     rw [e1,hπo j (by rw [hisp];dsimp only;rw [e3];exact e4)]
     have e2:ua[j]? =some u:=by simpa using e2
     simp [e2]
   ·rcases qK.1 hm with hm | hm
    ·obtain ⟨i,hi,he⟩:=List.mem_map.1 hm
     cases he
     exact .inr (.inr (.inl rfl))
    ·cases hnf:s.nf with
     | true=>rw [hnf] at hm;exact .inr (.inr (.inr ⟨rfl,hm⟩))
     | false=>rw [hnf] at hm;cases hm
 have hisw: ∀i∈is,∀id∈i,∃mc,lk id ws=some mc:=by
  intro i hi id hid
  rw [hws]
  rcases a7q (b:=bb) s.ps 0 xs is r.2 us hARs i hi id hid with ⟨mc,h1⟩ | h1
  ·exact b0a (a:=mc) (.inr (List.mem_append_left _ h1))
  ·exact b0a (a:= .dead) (.inr (List.mem_append_right _ (List.mem_append_left _ (List.mem_map.2 ⟨id,h1,rfl⟩))))
 have hown2: ∀v∈b8m s.rs us1++ioB s.ps ua,∀b,hdV v=some b -> ¬Z2 b /\ b<w'.heap.size /\ (w.heap.size <= b \/ ∃id0 m0,lk id0 ws=some m0 /\ MB (σ.mem id0) (π id0) b):=by
  intro v hv b hb
  obtain ⟨h1,h2,h3⟩:=hown v hv b hb
  refine ⟨fun hz=>h1 (hZ2le b hz),h2,?_⟩
  rcases h3 with ⟨i,hi,id,hid,hb'⟩ | h3
  ·obtain ⟨mc,hl⟩:=hisw i hi id hid
   exact .inr ⟨id,mc,hl,hb'⟩
  ·exact .inl h3
 have hGZ: ∀b,(∃i∈is,∃id∈i,MB (σ.mem id) (π id) b) -> ¬(Z b \/ b1r σ π fz b):=by
  rintro b ⟨i,hi,id,hid,hb⟩ (hz | ⟨q,hq,hbq⟩)
  ·exact (h.own id b hb).1 hz
  ·obtain ⟨j,hj⟩:=List.getElem?_of_mem hi
   have hne:id≠q.1:=by
    refine b4g hap j is.length i (fz.map (·.1)) id q.1 ?_ ?_ hid (List.mem_map_of_mem hq) ?_
    ·rw [List.getElem?_append_left (qD.1 hj).1];exact hj
    ·simp
    ·exact Nat.ne_of_lt (qD.1 hj).1
   exact h.dist id q.1 b hne hb hbq
 refine ⟨Z2,π2,?_⟩
 refine h.next (hE.mono fun b ⟨i,hi,id,hid,hb⟩=> ?_) hZle (fun b hb=> ?_) (fun id hu=>hπu id hu) (fun id mc hl=> ?_) (fun id mc hl=> ?_) (fun id mc b hl hb=> ?_) (fun id id' mc mc' b hne hl hl' hb hb'=> ?_) ?_
 ·obtain ⟨mc,hl⟩:=hisw i hi id hid
  exact ⟨id,mc,hl,hb⟩
 ·rw [hZ2] at hb
  cases hnf:s.nf with
  | false=>rw [hnf] at hb;exact .inl hb
  | true=>
    rw [hnf] at hb
    rcases hz2 b hb with (hz | ⟨q,hq,hbq⟩) | ⟨i,hi,id,hid,hb'⟩ | hz
    ·exact .inl hz
    ·refine .inr (.inr ?_)
     have: ∃mc,lk q.1 ws=some mc:=by
      rw [hws,hnf]
      exact b0a (a:=q.2) (.inr (List.mem_append_right _ (List.mem_append_right _ hq)))
     obtain ⟨mc,hl⟩:=this
     exact ⟨q.1,mc,hl,hbq⟩
    ·obtain ⟨mc,hl⟩:=hisw i hi id hid
     exact .inr (.inr ⟨id,mc,hl,hb'⟩)
    ·exact .inr (.inl hz)
 ·exact hwsnn _ (a98 hl)
 ·rw [<- hX2]
  rcases hcls id mc hl with ⟨p,u,hp,he,hmr,hpu⟩ | ⟨p,u,hp,_,hmr,hpu⟩ | rfl | ⟨hnf,hq⟩
  ·rw [hpu];exact hmr
  ·rw [hpu];exact hmr
  ·trivial
  ·obtain ⟨e,c,l,hmem,rfl⟩:=hfz hnf _ _ hq
   rw [hπu id (by rw [hmem];intro h;cases h)]
   have hm:=h.mem id
   rw [hmem] at hm
   have h1:=b5j (X:=cx Z π σ w) (Z':=fun b=>Z b \/ b1r σ π fz b) hm (fun b h=> .inl h) fun b hb=> .inr ⟨_,hq,by
    show MB (σ.mem id) (π id) b
    rw [hmem]
    obtain ⟨css,hO,_⟩:=hm
    obtain ⟨ad,cap,hv,_⟩:=hO.shape
    exact (a6t hv).1 hb⟩
   have h2:=j5.ext h1 (hE.mono (fun b hb=>hGZ b hb))
   rw [hX2]
   refine j5.weaken h2 fun b _ hn hz=>hn ?_
   show Z2 b
   rw [hZ2,hnf];exact hz1 b hz
 ·rcases hcls id mc hl with ⟨p,u,hp,he,hmr,hpu⟩ | ⟨p,u,hp,_,hmr,hpu⟩ | rfl | ⟨hnf,hq⟩
  ·rw [hpu] at hb
   exact hown2 u (List.mem_append_left _ (qE hp)) b (e4k hb)
  ·rw [hpu] at hb
   exact hown2 u (List.mem_append_right _ (qE hp)) b (e4k hb)
  ·exact hb.elim
  ·obtain ⟨e,c,l,_,rfl⟩:=hfz hnf _ _ hq
   exact hb.elim
 ·have pos: ∀id mc,lk id ws=some mc -> MB mc (π2 id) b -> ∃(k:Nat) (u:Value),(b8m s.rs us1++ioB s.ps ua)[k]? =some u /\ hdV u=some b /\ ((k<(b8m s.rs us1).length /\ id=fr+k) \/ ((b8m s.rs us1).length <= k /\ ∃mc',(b2s bb 0 s.ps is r.2)[k-(b8m s.rs us1).length]? =some (id,mc'))):=by
   intro id mc hl hb
   rcases hcls id mc hl with ⟨p,u,hp,he,hmr,hpu⟩ | ⟨p,u,hp,hpo,hmr,hpu⟩ | rfl | ⟨hnf,hq⟩
   ·rw [hpu] at hb
    have hlt:=(qD.1 hp).1
    exact ⟨p,u,by rw [List.getElem?_append_left hlt];exact hp,e4k hb,.inl ⟨hlt,he⟩⟩
   ·rw [hpu] at hb
    exact ⟨(b8m s.rs us1).length+p,u,by rw [List.getElem?_append_right (by omega)];simpa using hp,e4k hb,.inr ⟨by omega,mc,by simpa using hpo⟩⟩
   ·exact hb.elim
   ·obtain ⟨e,c,l,_,rfl⟩:=hfz hnf _ _ hq
    exact hb.elim
  obtain ⟨k,u,hk,hku,hkc⟩:=pos id mc hl hb
  obtain ⟨k',u',hk',hku',hkc'⟩:=pos id' mc' hl' hb'
  have hkk:k≠k':=by
   intro e
   subst e
   rcases hkc with ⟨h1,h2⟩ | ⟨h1,mc1,h2⟩<;>rcases hkc' with ⟨h3,h4⟩ | ⟨h3,mc2,h4⟩
   ·exact hne (h2.trans h4.symm)
   ·omega
   ·omega
   ·rw [h2] at h4;cases h4;exact hne rfl
  exact hdist k k' u u' b hkk hk hk' hku hku'
 ·rw [<- hX2]
  refine e4r (hm3 fun p u hp=>⟨?_,?_⟩)
  ·rw [hX2]
   show (σ.app d _ ws).mem (fr+p)≠ .never
   rw [m5]
   have hp':p<(c5d fr s.rs r.1).2.length:=by rw [hlenms];exact (qD.1 hp).1
   have h1:=hm2 p _ (qG hp')
   have: ∃mc,lk (fr+p) ws=some mc:=by
    rw [hws,<- h1]
    exact b0a (a:=((c5d fr s.rs r.1).2[p]).2) (.inl (List.getElem_mem hp'))
   obtain ⟨mc,hl⟩:=this
   rw [hl]
   exact hwsnn _ (a98 hl)
  ·rw [hX2];exact hπn p u hp
theorem d8u {X:Cx} {all:List Value}: ∀{ps:List (PK U.C)} {us:List Value} {xs:Args U ps} {is:List (List Nat)},ARs σ π X all ps us xs is -> us.length=ps.length
 | [],[],_,[],_=>rfl
 | _::_,_::_,(_,_),_::_,h=>by simp [d8u h.2]
 | [],[],_,_::_,h=>h.elim
 | [],_::_,_,is,h=>by cases is<;>exact h.elim
 | _::_,[],_,is,h=>by cases is<;>exact h.elim
 | _::_,_::_,(_,_),[],h=>h.elim
theorem b9g: ∀(rs:List (RK U.C)) (x:Ress U rs) (k:Ress U rs -> U.Q),(f0w rs x k).Ev σ m0 m v ws -> (k x).Ev σ m0 m v ws
 | [],_,k,h=>h
 | .v c::rs,(x,xs),k,h=>b9g rs xs _ h
 | .ls c::rs,(x,xs),k,h=>b9g rs xs _ h
 | .ow e c::rs,(x,xs),k,h=>b9g rs xs _ h
 | .bo t c::rs,(x,xs),k,h=>by
   rcases h with ⟨e,h⟩ | ⟨y,e,h⟩
   ·subst e;exact b9g rs xs _ h
   ·subst e;exact b9g rs xs _ h
theorem e57 (hU:UOK U) (h:Rel E Z π σ ρ w) {d:Option Tmp} {ty:TypeId} {ps:String} {af:Array Edge} {g:Option (Nat×Bool)} {x:Operand} {args:Array Operand} {tys:Array TypeId} {f g0:FuncId} {t0:TypeId} {co:Option U.C} {as cs:List U.AV} {vs fs:List Value}
  (hx:ev ρ x= .func (.func f) fs.toArray vs.toArray) (hcs:m7 (a18 (cx Z π σ w)) cs vs) (has:m7 (AVR (cx Z π σ w)) as (fs++args.toList.map (ev ρ))) (hk:c3a P f g0 t0) (hev:(f7r fr g0 t0 co (as++cs)).Ev σ m0 m v ws):
  a39 P E σ ρ w ⟨d,.call ⟨.value x,args,tys⟩,ty,ps,af,g⟩ v ws:=by
 have hall:m7 (AVR (cx Z π σ w)) (as++cs) (fs++args.toList.map (ev ρ)++vs):=a5q has (hcs.mono fun _ _ hh=>AVR.of1 hh)
 have e:(fs.toArray++args.map (ev ρ)++vs.toArray)=(fs++args.toList.map (ev ρ)++vs).toArray:=by apply Array.ext';simp
 generalize as++cs=A at hall hev
 generalize hB:fs++args.toList.map (ev ρ)++vs=B at hall e
 have run: ∀(u:Value),B=[u] -> (execOp (ev ρ) ⟨d,.call ⟨.value x,args,tys⟩,ty,ps,af,g⟩).run P w= .ok (.enter f #[u]) w:=by
  intro u hb
  have hc:=hk.1 #[u] w
  rw [hb] at e
  simp only [execOp,resolve,Deferred.ofValue,hx,Sem.run_bind]
  simp [invoke,hc,e]
 have fin: ∀(u:Value) (a:U.AV),B=[u] -> u.cells.toList=[u] -> (∀X':Cx,(cx Z π σ w).Le X' -> a18 X' a u) -> σ.mem fr= .never -> a39 P E σ ρ w ⟨d,.call ⟨.value x,args,tys⟩,ty,ps,af,g⟩ (.clo g0 [.ref fr]) [(fr,.box t0 a)]:=by
  intro u a hb hcell hu hfr
  unfold a39 y9
  rw [run u hb]
  refine (hk.2 u hcell w).mono fun e' w' ⟨he,hw⟩=>⟨_,he,Z,b52 π fr (.pointer (some ⟨w.heap.size,0,none⟩)),?_⟩
  subst hw
  have hM:Mb (w.alloc (.cells #[u] t0)) w.heap.size t0 [u]:=by
   have:=Mb.alloc w t0 [u]
   simpa using this
  have hN:=h.new (d:=none) (dead:=[]) (mc:= .box t0 a) (v':= .pointer (some ⟨w.heap.size,0,none⟩)) hfr (fun h=>by cases h) ((Ext.alloc _ w (.cells #[u] t0)).mono fun _ hh=>hh) (fun X' hle hw hZ=>⟨w.heap.size,u,rfl,by rw [hw,hcell];exact hM,hu X' hle⟩) (fun b hb=>by
   have hb:some w.heap.size=some b:=hb
   cases hb
   exact ⟨by simp,.inl (Nat.le_refl _)⟩) rfl
  have e0:(σ.app none (.ref fr) ((fr,.box t0 a)::([]:List Nat).map fun id=>(id,.dead))).app d (.clo g0 [.ref fr]) []=σ.app d (.clo g0 [.ref fr]) [(fr,.box t0 a)]:=by
   cases d<;>simp [St.app,St.put]
  rw [<- e0]
  refine hN.val (Ext.refl _ _) ⟨[.pointer (some ⟨w.heap.size,0,none⟩)],rfl,⟨?_,?_,rfl⟩,trivial⟩
  ·show (σ.app none (.ref fr) ((fr,.box t0 a)::([]:List Nat).map fun id=>(id,.dead))).mem fr≠ .never
   rw [m5]
   have:lk fr ((fr,.box t0 a)::([]:List Nat).map fun id=>(id,(.dead:U.MC)))=some (.box t0 a):=by
    show (bif Nat.beq fr fr then some _ else _)=_
    rw [show Nat.beq fr fr=true from Nat.beq_refl fr];rfl
   rw [this];intro h;cases h
  ·show _=b52 π fr _ fr
   simp [b52]
 unfold f7r at hev
 split at hev
 ·rename_i id
  match B,hall with
  | [u],hall=>
    have hu:=hall.1
    have hm:=h.mem id
    simp only [Q.Ev] at hev
    split at hev
    ·rename_i l hmem
     rw [hmem] at hm
     obtain ⟨mb,hp,_,_⟩:=hm
     obtain ⟨hfr,m1,hm1,rfl,rfl⟩:=a9r hev
     have huv:u= .map (some mb):=by rw [hu.2.1];exact hp
     exact fin u (.ref id) rfl (by rw [huv];rfl) (fun X' hle=>⟨(hle.u id hu.1).1,by rw [(hle.u id hu.1).2];exact hu.2.1,by rw [huv];rfl⟩) hfr
    ·exact hev.elim
  | [],hall=>exact hall.elim
  | _::_::_,hall=>exact hall.2.elim
 ·rename_i c0 c l
  match B,hall with
  | [u],hall=>
    have hu:j5 (Rp c) (cx Z π σ w).G w u l:=hall.1
    obtain ⟨hfr,m1,hm1,rfl,rfl⟩:=a9r hev
    exact fin u (.list c l) rfl (b5b (c3j hu)) (fun X' hle=>j5.le hle hu) hfr
  | [],hall=>exact hall.elim
  | _::_::_,hall=>exact hall.2.elim
 ·match B,hall with
  | [u],hall=>
    have hu:u= .slice none 0 0:=hall.1
    obtain ⟨hfr,m1,hm1,rfl,rfl⟩:=a9r hev
    exact fin u .nils rfl (by rw [hu];rfl) (fun X' hle=>hu) hfr
  | [],hall=>exact hall.elim
  | _::_::_,hall=>exact hall.2.elim
 ·exact hev.elim
theorem e9d (h:Rel E Z π σ ρ w) {d:Option Tmp} {ty:TypeId} {ps:String} {af:Array Edge} {g:Option (Nat×Bool)} {x:Operand} {args:Array Operand} {tys:Array TypeId} {f:FuncId} {q:Nat -> List U.AV -> U.Q} {as cs:List U.AV} {vs fs:List Value}
  (hx:ev ρ x= .func (.func f) fs.toArray vs.toArray) (hcs:m7 (a18 (cx Z π σ w)) cs vs) (has:m7 (AVR (cx Z π σ w)) as (fs++args.toList.map (ev ρ))) (hk:c9z P f q) (hev:(q fr (as++cs)).Ev σ m0 m v ws):
  a39 P E σ ρ w ⟨d,.call ⟨.value x,args,tys⟩,ty,ps,af,g⟩ v ws:=by
 have hall:m7 (AVR (cx Z π σ w)) (as++cs) (fs++args.toList.map (ev ρ)++vs):=a5q has (hcs.mono fun _ _ hh=>AVR.of1 hh)
 have e:(fs.toArray++args.map (ev ρ)++vs.toArray)=(fs++args.toList.map (ev ρ)++vs).toArray:=by apply Array.ext';simp
 have hrun:(execOp (ev ρ) ⟨d,.call ⟨.value x,args,tys⟩,ty,ps,af,g⟩).run P w= .ok (.enter f (fs++args.toList.map (ev ρ)++vs).toArray) w:=by
  have hc:=hk.1 (fs.toArray++args.map (ev ρ)++vs.toArray) w
  rw [e] at hc
  simp only [execOp,resolve,Deferred.ofValue,hx,Sem.run_bind]
  simp only [List.append_assoc] at hc
  simp [invoke,hc,e]
 unfold a39 y9
 rw [hrun]
 exact (hk.2 E Z π σ ρ w fr _ _ _ _ _ _ h hall hev).mono fun e' w' ⟨u,he,hP⟩=>⟨u,he,hP d⟩
theorem c89 (hU:UOK U) {Φ:Phi U} (hΦ: ∀f as fe,Φ f as=some fe -> c2k P f fe) (h:Rel E Z π σ ρ w) {d:Option Tmp} {ty:TypeId} {ps:String} {af:Array Edge} {g:Option (Nat×Bool)} {x:Operand} {args:Array Operand} {tys:Array TypeId} {f:FuncId} {as cs:List U.AV} {vs fs:List Value}
  (hx:ev ρ x= .func (.func f) fs.toArray vs.toArray) (hcs:m7 (a18 (cx Z π σ w)) cs vs) (has:m7 (AVR (cx Z π σ w)) as (fs++args.toList.map (ev ρ))) (hev:(e45 Φ fr f (as++cs)).Ev σ m0 m v ws):
  a39 P E σ ρ w ⟨d,.call ⟨.value x,args,tys⟩,ty,ps,af,g⟩ v ws:=by
 unfold e45 at hev
 split at hev
 case h_2=>exact hev.elim
 rename_i fe hfe
 have hkn:=hΦ f _ fe hfe
 split at hev
 ·rename_i g t c hq
  exact e57 hU h hx hcs has (by unfold c2k at hkn;rw [hq] at hkn;exact hkn) hev
 ·rename_i q hq
  exact e9d h hx hcs has (by unfold c2k at hkn;rw [hq] at hkn;exact hkn) hev
 rename_i hq
 have hkn:(Spec P f fe /\ b13 P f) \/ e0l P f fe:=by unfold c2k at hkn;rw [hq] at hkn;exact hkn
 split at hev
 case h_2=>exact hev.elim
 rename_i hck
 simp only [qB] at hck
 have hall0:m7 (AVR (cx Z π σ w)) (as++cs) (fs++args.toList.map (ev ρ)++vs):=a5q has (hcs.mono fun _ _ hh=>AVR.of1 hh)
 have hlen0:(fs++args.toList.map (ev ρ)++vs).length=npK fe.s.ps:=by rw [<- m7.length hall0];exact qC hck.2
 obtain ⟨ex,exv,m9,hex,hev⟩:=f2r h hev
 have hall:m7 (AVR (cx Z π σ w)) (as++cs++ex) (fs++args.toList.map (ev ρ)++vs++exv):=a5q hall0 hex
 obtain ⟨xs,is,fz,m1,hev,h1,h2,h3,h4⟩:=d86 hU h hall hall hev
 split at hev
 case h_2=>exact hev.elim
 rename_i hap
 obtain ⟨bb,hr,hev⟩:=hev
 have hev:=b9g _ _ _ hev
 dsimp only at hev
 obtain ⟨hnev,m2,hev⟩:=c7k hev
 obtain ⟨hnev2,m3,hm1,hv0,hws⟩:=c7k hev
 subst hv0
 rw [hws]
 have e:(fs.toArray++args.map (ev ρ)++vs.toArray)=(fs++args.toList.map (ev ρ)++vs).toArray:=by apply Array.ext';simp
 have htk:(fs++args.toList.map (ev ρ)++vs++exv).take (npK fe.s.ps)=fs++args.toList.map (ev ρ)++vs:=by rw [<- hlen0,List.take_left]
 have hρ: ∀(j:Nat) u,(fs++args.toList.map (ev ρ)++vs++exv)[j]? =some u -> c0g (fs++args.toList.map (ev ρ)++vs++exv) j=u:=by
  intro j u hu;simp only [c0g,List.getD_eq_getElem?_getD,hu,Option.getD_some]
 have hs: ∀t,t<npK fe.s.ps -> c0g ((fs++args.toList.map (ev ρ)++vs++exv).take (npK fe.s.ps)) t=c0g (fs++args.toList.map (ev ρ)++vs++exv) t:=by
  intro t ht
  simp only [c0g,List.getD_eq_getElem?_getD,List.getElem?_take_of_lt ht]
 have hlen:(fs++args.toList.map (ev ρ)++vs++exv).length=fe.s.ps.length:=by
  have hA:=h4 (fun b=>Z b \/ b1r σ π fz b) (fun b h=> .inl h) (fun b h=> .inr h)
  exact d8u hA
 have hpar:=d7w hU h hck.1 hs h2 h4 hap hρ
 unfold a39 y9
 rcases hkn with ⟨hspec,hcall⟩ | hspec
 ·have hrun:(execOp (ev ρ) ⟨d,.call ⟨.value x,args,tys⟩,ty,ps,af,g⟩).run P w= .ok (.enter f (fs++args.toList.map (ev ρ)++vs).toArray) w:=by
   have hc:=hcall (fs.toArray++args.map (ev ρ)++vs.toArray) w
   rw [e] at hc
   simp only [execOp,resolve,Deferred.ofValue,hx,Sem.run_bind]
   simp only [List.append_assoc] at hc
   simp [invoke,hc,e]
  rw [hrun]
  have hS:=hspec xs bb hr _ _ w _ hlen hpar
  rw [htk] at hS
  refine hS.mono fun e w' ⟨u,he,hP⟩=>⟨u,he,?_⟩
  exact c8d hU h h1 h2 h3 h4 hap hck.1 hnev hnev2 hP
 ·obtain ⟨u,w',hc,hP⟩:=hspec xs bb hr _ _ w _ hlen hpar
  rw [htk] at hc
  have hrun:(execOp (ev ρ) ⟨d,.call ⟨.value x,args,tys⟩,ty,ps,af,g⟩).run P w= .ok (.value u) w':=by
   simp only [execOp,resolve,Deferred.ofValue,hx,Sem.run_bind]
   simp only [List.append_assoc] at hc
   simp [invoke,hc,e]
  rw [hrun]
  exact c8d hU h h1 h2 h3 h4 hap hck.1 hnev hnev2 hP
end
end Go.SX
namespace Go.PL
open Go
section
variable {P:Program} {w:World} {α:Type} {B:Nat} {E:TypeId} {n:Nat} {cells:α -> List Value} {v:Value} {l r:List α} {t:TypeId}
theorem e3x {lo hi:Option Value} {i j:Int} (hn: ∀x,(cells x).length=n) (ht:P.underlying t=some (.slice E)) (he:(P.info? E).map (·.size)=some n) (hO:Own B E n cells w v l) (hs:a0j l i j=some r)
  (hlo:(lo=none /\ i=0) \/ lo=some (.int .i64 i)) (hhi:(hi=none /\ j=(l.length:Int)) \/ hi=some (.int .i64 j)):
  ∃u,(Instr.sliceAt t v lo hi none).run P w= .ok u w /\ u.oneCell'=true /\ Own B E n cells w u r /\ (∀k,u.ownBlock=some k -> v.ownBlock=some k) /\ (j=(l.length:Int) -> c4b u v n i r.length):=by
 obtain ⟨h0,h1,h2,hr⟩:=b0r hs
 have hlen:r.length=j.toNat-i.toNat:=by rw [hr,List.length_take,List.length_drop];omega
 obtain ⟨ad,cap,hv,hcap,_⟩:=hO.shape
 refine ⟨.slice (if cap=i.toNat then ad else ad.map (·.add (i.toNat*n))) (j.toNat-i.toNat) (cap-i.toNat),?_,rfl,?_,?_,?_⟩
 ·cases hinfo:P.info? E with
  | none=>simp [hinfo] at he
  | some q=>
    simp only [hinfo,Option.map_some,Option.some.injEq] at he
    subst hv
    have hj:(0 <= j /\ j <= (cap:Int)):=by omega
    have hij:(0 <= i /\ i <= (j.toNat:Int)):=by omega
    rcases hlo with ⟨rfl,rfl⟩ | rfl<;>rcases hhi with ⟨rfl,hl⟩ | rfl
    ·have e1:j.toNat=l.length:=by omega
     simp [Instr.sliceAt,Instr.slice,run_underlying ht,Instr.sliceBounds,sizeOf,typeInfo,hinfo,e1]
    ·simp [Instr.sliceAt,Instr.slice,run_underlying ht,Instr.sliceBounds,Instr.sliceBound,asIntOf,hj,sizeOf,typeInfo,hinfo]
    ·have e1:j.toNat=l.length:=by omega
     rw [e1] at hij
     simp [Instr.sliceAt,Instr.slice,run_underlying ht,Instr.sliceBounds,Instr.sliceBound,asIntOf,hij,sizeOf,typeInfo,hinfo,he,e1]
    ·simp [Instr.sliceAt,Instr.slice,run_underlying ht,Instr.sliceBounds,Instr.sliceBound,asIntOf,hj,hij,sizeOf,typeInfo,hinfo,he]
     omega
 ·rcases hO with ⟨hv2,hl⟩ | ⟨gb,off,cap2,cur,hv2,hg,hh,hc,hm,hsz,htk⟩
  ·rw [hv2] at hv
   subst hl
   simp only [Value.slice.injEq] at hv
   obtain ⟨rfl,_,rfl⟩:=hv
   have ha:i.toNat=0:=by rw [List.length_nil] at h2;omega
   have hb:j.toNat=0:=by rw [List.length_nil] at h2;omega
   have:r=[]:=List.length_eq_zero_iff.1 (by rw [hlen,ha,hb])
   rw [this,if_pos ha.symm,ha,hb]
   exact Own.nil _ _ _ _ _
  ·rw [hv2] at hv
   simp only [Value.slice.injEq] at hv
   obtain ⟨rfl,_,rfl⟩:=hv
   by_cases hca:cap2=i.toNat
   ·rw [if_pos hca]
    have:r=[]:=List.length_eq_zero_iff.1 (by omega)
    refine .inr ⟨gb,off,cap2-i.toNat,cur,by rw [hlen],hg,hh,by omega,by omega,?_,?_⟩
    ·rw [hca,Nat.sub_self];omega
    ·rw [this];simp
   ·rw [if_neg hca]
    have hmul:cap2*n=i.toNat*n+(cap2-i.toNat)*n:=by rw [<- Nat.add_mul];congr 1;omega
    refine .inr ⟨gb,off+i.toNat*n,cap2-i.toNat,cur,by rw [hlen,Option.map_some,Addr.add_lit],hg,hh,by omega,by omega,by omega,?_⟩
    have e1:(l.drop i.toNat).take (j.toNat-i.toNat)=r:=hr.symm
    have e2:(l.flatMap cells).drop (i.toNat*n)=(l.drop i.toNat).flatMap cells:=b9v hn l i.toNat
    have key: ∀(l:List α) (k:Nat),k <= l.length -> (l.flatMap cells).take (k*n)=(l.take k).flatMap cells:=by
     intro l
     induction l with
     | nil=>intro k hk;simp
     | cons y l ih=>
       intro k hk
       cases k with
       | zero=>simp
       | succ k=>rw [List.take_succ_cons,List.flatMap_cons,List.flatMap_cons,Nat.succ_mul,Nat.add_comm,<- hn y,List.take_length_add_append,hn y,ih k (by simpa using hk)]
    have e3:=key (l.drop i.toNat) (j.toNat-i.toNat) (by rw [List.length_drop];omega)
    rw [e1,<- e2,<- htk] at e3
    rw [<- e3,List.drop_take,List.take_take,List.drop_drop,hlen]
    congr 1
    have:(j.toNat-i.toNat)*n <= l.length*n-i.toNat*n:=by rw [<- Nat.sub_mul];exact Nat.mul_le_mul_right n (by omega)
    omega
 ·intro k hk
  rw [hv]
  cases ad with
  | none=>
    split at hk<;>simp [Value.ownBlock] at hk
  | some ad=>
    split at hk
    ·exact hk
    ·have hk:some (ad.add (i.toNat*n)).block=some k:=hk
     rw [a1d] at hk;exact hk
 ·intro hjl
  refine ⟨ad,l.length,cap,_,_,hv,h0,by omega,by rw [hlen],fun hp=> ?_⟩
  have hne: ¬cap=i.toNat:=by omega
  rw [if_neg hne]
  cases ad with
  | none=>
    rcases hO with ⟨h5,h6⟩ | ⟨g',off',cap',cur,h5,_⟩
    ·rw [h6,List.length_nil] at h2;omega
    ·rw [hv] at h5;cases h5
  | some ad=>exact ⟨ad,rfl,rfl⟩
end
end Go.PL
namespace Go.SX
open Go Go.PL
section
variable {P:Program} {U:Uni}
variable {E:Env} {Z:Nat -> Prop} {π:Nat -> Value} {σ:U.St} {ρ:Nat -> Value} {w:World}
variable {d:Option Tmp} {ty:TypeId} {ps:String} {af:Array Edge} {g:Option (Nat×Bool)} {x y z:Operand} {m0 m:Nat} {a b c v:U.AV} {ws:List (Nat×U.MC)} {fr:Nat}
theorem d6l {α β:Type} {p:α -> β -> Prop} {l:List α} {r r':List β} {i j:Int} (h:m7 p l r) (hs:a0j r i j=some r'): ∃l',a0j l i j=some l' /\ m7 p l' r':=by
 obtain ⟨h0,h1,h2,hr⟩:=b0r hs
 refine ⟨(l.drop i.toNat).take (j.toNat-i.toNat),?_,?_⟩
 ·unfold a0j;rw [if_pos ⟨h0,h1,by rw [h.length];exact h2⟩]
 ·rw [hr]
  refine m7.of_get (by simp [h.length]) fun k a b ha hb=> ?_
  rw [List.getElem?_take] at ha hb
  split at ha
  ·rename_i hk
   rw [if_pos hk] at hb
   rw [List.getElem?_drop] at ha hb
   obtain ⟨b',hb',hp⟩:=h.get ha
   rw [hb] at hb'
   cases hb'
   exact hp
  ·cases ha
theorem c20 {t e:TypeId} (h:c57 P t e=true):P.underlying t=some (.slice e):=by
 unfold c57 at h
 split at h
 ·rename_i e' he;rw [he,qC h]
 ·cases h
theorem c5w {t:TypeId} {c:U.C} {l r:List (U.T c)} {e0:TypeId} {X:Cx} {u:Value} {lo hi:Option Value} {i j:Int} (hm:MR X (.sl e0 c l) u) (he:(a9p P t c&&c57 P t e0)=true) (hs:a0j l i j=some r)
  (hlo:(lo=none /\ i=0) \/ lo=some (.int .i64 i)) (hhi:(hi=none /\ j=(l.length:Int)) \/ hi=some (.int .i64 j)):
  ∃u',(Instr.sliceAt t u lo hi none).run P X.w= .ok u' X.w /\ u'.oneCell'=true /\ MR X (.sl e0 c r) u' /\ (∀k,u'.ownBlock=some k -> u.ownBlock=some k) /\ (j=(l.length:Int) -> c4b u' u (U.n c) i r.length):=by
 simp only [qB] at he
 obtain ⟨e,he1,he2,_,_⟩:=a90 he.1
 have he3:=c20 he.2
 rw [he1] at he3
 cases he3
 obtain ⟨css,hO,hr⟩:=hm
 obtain ⟨css',hs',hr'⟩:=d6l hr hs
 have hhi':(hi=none /\ j=(css.length:Int)) \/ hi=some (.int .i64 j):=by rw [hr.length];exact hhi
 obtain ⟨u',h1,h1',h2,h3,h4⟩:=e3x (P:=P) (t:=t) (fun r=>r.2.1) he1 (a7g he2) hO hs' hlo hhi'
 exact ⟨u',h1,h1',⟨css',h2,hr'⟩,h3,fun hj=>by rw [<- hr'.length];exact h4 (by rw [hr.length];exact hj)⟩
theorem d9i (h:Rel E Z π σ ρ w) {t:TypeId} {lo hi:Option Operand} (hx:AVR (cx Z π σ w) a (ev ρ x)) (hev:(e8f P t a lo hi).Ev σ m0 m v ws):
  a39 P E σ ρ w ⟨d,.slice t x lo hi none,ty,ps,af,g⟩ v ws:=by
 unfold e8f at hev
 split at hev
 case h_2=>exact hev.elim
 rename_i id
 have hm:=h.mem id
 simp only [Q.Ev] at hev
 split at hev
 case h_2=>exact hev.elim
 rename_i e0 c l hmem
 split at hev
 case h_2=>exact hev.elim
 rename_i he
 obtain ⟨i,m1,hev,hlo⟩:=a9d h hev
 split at hev
 case h_2=>exact hev.elim
 rename_i hhi
 obtain ⟨r,hr,hm1,rfl,rfl⟩:=hev
 rw [hmem] at hm
 obtain ⟨u',hrun,_,_,_,hV⟩:=c5w (P:=P) (hi:=none) hm he hr hlo (.inl ⟨rfl,rfl⟩)
 have hrun:(Instr.sliceAt t (π id) (lo.map (ev ρ)) none none).run P w= .ok u' w:=hrun
 refine d9 h (v:=u') ?_ ⟨hx.1,hV rfl⟩
 have hxv:ev ρ x=π id:=hx.2.1
 rw [<- hxv] at hrun
 simp [YV,execOp,hrun]
theorem d9x (h:Rel E Z π σ ρ w) {t:TypeId} {lo hi:Option Operand} (hx:AVR (cx Z π σ w) a (ev ρ x)) (hev:(f8p P fr t a lo hi).Ev σ m0 m v ws):
  a39 P E σ ρ w ⟨d,.slice t x lo hi none,ty,ps,af,g⟩ v ws:=by
 unfold f8p at hev
 split at hev
 case h_2=>exact hev.elim
 rename_i id
 have hm:=h.mem id
 simp only [Q.Ev] at hev
 split at hev
 case h_2=>exact hev.elim
 rename_i e0 c l hmem
 split at hev
 case h_2=>exact hev.elim
 rename_i he
 obtain ⟨i,m1,hev,hlo⟩:=a9d h hev
 obtain ⟨j,m2,hev,hhi⟩:=a9d h hev
 obtain ⟨r,hr,hev⟩:=hev
 obtain ⟨hn,m3,hm3,hv0,hws⟩:=a9r hev
 subst hv0
 rw [hws]
 rw [hmem] at hm
 obtain ⟨u',hrun,h1,hMR,hown,_⟩:=c5w (P:=P) hm he hr hlo hhi
 have hrun:(Instr.sliceAt t (π id) (lo.map (ev ρ)) (hi.map (ev ρ)) none).run P w= .ok u' w:=hrun
 have hxv:ev ρ x=π id:=hx.2.1
 rw [<- hxv] at hrun
 have hex:(execOp (ev ρ) ⟨d,.slice t x lo hi none,ty,ps,af,g⟩).run P w= .ok (.value u') w:=by simp [execOp,hrun]
 unfold a39 y9
 rw [hex]
 refine ⟨Z,b52 π fr u',?_⟩
 refine h.new (dead:=[id]) hn (fun h=>by cases h) (Ext.refl _ _) (fun X' hle hw _=> ?_) (fun q hq=> ?_) h1
 ·exact MR.le hle hMR fun b _ _=>by rw [hw];rfl
 ·obtain ⟨css,hO,_⟩:=hMR
  obtain ⟨ad,cap,hv,_⟩:=hO.shape
  have hq2:u'.ownBlock=some q:=(a6t hv).2 hq
  refine ⟨(hO.lt hq2).2,.inr ⟨id,by simp,?_⟩⟩
  rw [hmem]
  obtain ⟨css0,hO0,_⟩:=hm
  obtain ⟨ad0,cap0,hv0,_⟩:=hO0.shape
  exact (a6t hv0).1 (hown _ hq2)
theorem e24 {α:Type} {z:α} {l r:List α} {lo:Int} {n:Nat} (h:f2g z l lo n=some r):0 <= lo /\ lo.toNat+n=l.length /\ r=b1p z l lo:=by
 unfold f2g at h
 split at h
 ·rename_i hc;exact ⟨hc.1,hc.2,(qH h).symm⟩
 ·cases h
theorem c79 {α β:Type} {p:α -> β -> Prop} {a:α} {b:β} (h:p a b): ∀n:Nat,m7 p (List.replicate n a) (List.replicate n b)
 | 0=>trivial
 | n+1=>⟨h,c79 h n⟩
theorem c96 {α β:Type} {p:α -> β -> Prop}: ∀{l:List α} {r:List β} (n:Nat),m7 p l r -> m7 p (l.take n) (r.take n)
 | _,_,0,_=>by simp [m7]
 | [],[],_+1,_=>trivial
 | _::_,_::_,n+1,h=>⟨h.1,c96 n h.2⟩
 | [],_::_,_+1,h=>h.elim
 | _::_,[],_+1,h=>h.elim
theorem d6h (hU:UOK U) (h:Rel E Z π σ ρ w) {t:TypeId} (hx:AVR (cx Z π σ w) a (ev ρ x)) (hev:(e1y P t a).Ev σ m0 m v ws):
  a39 P E σ ρ w ⟨d,.call ⟨.builtin .clear,#[x],#[t]⟩,ty,ps,af,g⟩ v ws:=by
 unfold e1y at hev
 split at hev
 case h_2=>exact hev.elim
 rename_i id c lo n
 have hm:=h.mem id
 simp only [Q.Ev] at hev
 split at hev
 case h_2=>exact hev.elim
 rename_i e c' l' hmem
 split at hev
 case h_2=>exact hev.elim
 rename_i l za hck hl hza
 simp only [qB] at hck
 have ht:=c20 hck.1
 obtain ⟨he,hx2⟩:=a2b (G:=noG) (w:=w) hl
 subst he
 subst hx2
 split at hev
 case h_2=>exact hev.elim
 rename_i zv hzv
 obtain ⟨r,hr,hm1,rfl,rfl⟩:=hev
 obtain ⟨h0,hlen,rfl⟩:=e24 hr
 rw [hmem] at hm
 have hm0:=hm
 obtain ⟨css,hO,hrs⟩:=hm
 obtain ⟨ie,zval,hie,hz,hzs,hsz1,hp1,hp2⟩:=b69 hck.2
 have hzc: ∃zr:Raw (U.n c'),zval.cells.toList=zr.1 /\ ∀G w,(Rp c').rep G w zr.1 zv:=by
  unfold b3o at hza
  rw [hie] at hza
  dsimp only at hza
  rw [hz] at hza
  have key: ∀(Z':Nat -> Prop) (w':World),(Rp c').rep (cz Z' w').G w' zval.cells.toList zv:=fun Z' w'=>by
   obtain ⟨u,hu,hru⟩:=b53 hU (X:=cz Z' w') _ _ _ _ hza
   have:=b3t hU hzv hru
   rw [hu] at this
   exact this
  have key2: ∀(G:Nat -> Prop) (w':World),(Rp c').rep G w' zval.cells.toList zv:=fun G w'=>(Rp c').weaken (key (fun b=> ¬G b) w') fun b _ hg hz=>hz hg
  exact ⟨c45 (key2 noG w),rfl,key2⟩
 obtain ⟨zr,hzr1,hzr2⟩:=hzc
 have hcl:=d6x (P:=P) (w:=w) (G:=fun b=>(π id).ownBlock=some b) (ρ:=ρ) (F:=[(0,fun _ w'=>Own 0 e (U.n c') Subtype.val w' (π id) (b1p zr css lo))]) (p:=⟨[],[],[],[0],[],[],[]⟩) (i:=0) (B:=0) (E:=e) (n:=U.n c') (cells:=(Subtype.val:Raw (U.n c') -> List Value)) (v:=π id) (u:=ev ρ x) (zv:=zval) (l:=css) (z:=zr) (t:=t) (x:=x) (a:=lo) (len:=n)
  (ty:=ty) (ps:=ps) (af:=af) (g:=g) rfl rfl (fun b hb=>hb) (fun r=>r.2.1) (fun r=>r.2.2) (by omega) rfl ht (fun w'=>by simp [zeroValue,typeInfo,hie,hz]) hzr1 hx.2 hO
 refine (show y9 P ⟨d,.call ⟨.builtin .clear,#[x],#[t]⟩,ty,ps,af,g⟩ (ev ρ) w _ from hcl).mono fun u w' ⟨hE,hf⟩=> ?_
 have hf:Own 0 e (U.n c') Subtype.val w' (π id) (b1p zr css lo):=hf
 have hE:Ext (fun b=>(π id).ownBlock=some b) w w':=hE
 have hbk: ∀b,(π id).ownBlock=some b -> MB (σ.mem id) (π id) b:=fun b hb=>by
  rw [hmem]
  obtain ⟨ad0,cap0,hv0,_⟩:=hO.shape
  exact (a6t hv0).1 hb
 refine ⟨Z,π,h.set (fun hh=>by rw [hmem] at hh;cases hh) (fun hh=>by cases hh) (hE.mono hbk) (fun X' hle hw=> ?_) (fun y hy=> ?_) fun X' _=>trivial⟩
 ·refine ⟨b1p zr css lo,by rw [hw];exact hf,?_⟩
  unfold b1p
  rw [hrs.length]
  exact a5q (c96 _ (hrs.mono fun _ _ hh=>b8h hle hh)) (c79 (p:=fun (r:Raw (U.n c')) x=>(Rp c').rep X'.G X'.w r.1 x) (hzr2 _ _) _)
 ·rw [hmem];exact hy
end
end Go.SX
namespace Go.PL
open Go
section
variable {P:Program} {w:World} {α:Type} {R:TyR α} {G:Nat -> Prop} {v:Value} {l r:List α} {t e:TypeId}
theorem j5.cut3 {lo hi mx:Int} (h:j5 R G w v l) (hs:a0j l lo hi=some r) (h1:hi <= mx) (h2:mx <= (l.length:Int)):
  ∃a cap,v= .slice a l.length cap /\ l.length <= cap /\ j5 R G w (.slice (if mx.toNat=lo.toNat then a else a.map (·.add (lo.toNat*R.n))) (hi.toNat-lo.toNat) (mx.toNat-lo.toNat)) r:=by
 obtain ⟨h0,h1',h2',hr⟩:=b0r hs
 have hlen:r.length=hi.toNat-lo.toNat:=by rw [hr,List.length_take,List.length_drop];omega
 rcases h with ⟨hv,rfl⟩ | ⟨a,cap,hv,hc,hm,hi'⟩
 ·refine ⟨none,0,hv,by simp,.inl ⟨?_,by simpa using hr⟩⟩
  have e1:lo.toNat=0:=by simp at h2';omega
  have e2:hi.toNat=0:=by simp at h2';omega
  have e3:mx.toNat=0:=by simp at h2;omega
  simp [e1,e2,e3]
 ·refine ⟨some a,cap,hv,by omega,.inr ?_⟩
  by_cases hz:mx.toNat=lo.toNat
  ·refine ⟨a,mx.toNat-lo.toNat,by rw [if_pos hz,hlen],by omega,by omega,fun i x hx=> ?_⟩
   have:r=[]:=List.length_eq_zero_iff.1 (by omega)
   rw [this] at hx;simp at hx
  ·refine ⟨a.add (lo.toNat*R.n),mx.toNat-lo.toNat,by rw [if_neg hz,hlen];rfl,by omega,by omega,fun i x hx=> ?_⟩
   rw [hr,List.getElem?_take] at hx
   split at hx
   ·rw [List.getElem?_drop] at hx
    obtain ⟨cs,h3,h4,h5,h6⟩:=hi' _ _ hx
    refine ⟨cs,h3,by rw [a1d];exact h4,by rw [a1d];exact h5,?_⟩
    rw [Deep.add_add,<- Nat.add_mul];exact h6
   ·cases hx
theorem e43 {lo:Option Value} {i j k:Int} (ht:P.underlying t=some (.slice e)) (he:(P.info? e).map (·.size)=some R.n) (h:j5 R G w v l) (hs:a0j l i j=some r) (h1:j <= k) (h2:k <= (l.length:Int))
  (hlo:(lo=none /\ i=0) \/ lo=some (.int .i64 i)):
  ∃u,(Instr.sliceAt t v lo (some (.int .i64 j)) (some (.int .i64 k))).run P w= .ok u w /\ j5 R G w u r:=by
 obtain ⟨a,cap,hv,hcap,hrep⟩:=h.cut3 hs h1 h2
 obtain ⟨h0,h1',h2',_⟩:=b0r hs
 refine ⟨_,?_,hrep⟩
 cases hinfo:P.info? e with
 | none=>simp [hinfo] at he
 | some q=>
   simp only [hinfo,Option.map_some,Option.some.injEq] at he
   subst hv
   have hk:(0 <= k /\ k <= (cap:Int)):=by omega
   have hj:(0 <= j /\ j <= (k.toNat:Int)):=by omega
   have hij:(0 <= i /\ i <= (j.toNat:Int)):=by omega
   have hj2:j <= max k 0:=by omega
   have hij2:i <= max j 0:=by omega
   have hw: ¬max k 0<j:=by omega
   rcases hlo with ⟨rfl,rfl⟩ | rfl
   ·simp [Instr.sliceAt,Instr.slice,run_underlying ht,Instr.sliceBounds,Instr.sliceBound,asIntOf,hj,hk,hj2,hw,sizeOf,typeInfo,hinfo,he]
   ·simp [Instr.sliceAt,Instr.slice,run_underlying ht,Instr.sliceBounds,Instr.sliceBound,asIntOf,hj,hk,hij,hj2,hij2,sizeOf,typeInfo,hinfo,he]
end
end Go.PL
namespace Go.SX
open Go Go.PL
theorem c9m (z:Array Value) (hz:0<z.size): ∀k:Nat,(madeCells z (k*z.size)).toList=(List.replicate k z.toList).flatten
 | 0=>by simp [madeCells]
 | k+1=>by
   have ih:=c9m z hz k
   simp only [madeCells,Array.toList_map,Array.toList_range] at ih⊢
   rw [List.replicate_succ,List.flatten_cons,<- ih,Nat.add_mul,Nat.one_mul,Nat.add_comm (k*z.size),List.range_add,List.map_append,List.map_map]
   congr 1
   ·apply List.ext_getElem
    ·simp
    ·intro i h1 h2
     simp only [List.length_map,List.length_range] at h1
     simp [Nat.mod_eq_of_lt h1,h1]
   ·apply List.map_congr_left
    intro i _
    simp [Nat.add_mod_left]
theorem e35 {α:Type} {bytes:Nat} {z:α} {n m:Int} {r:List α} (h:mkI bytes z n m=some r):0 <= n /\ m=n /\ (bytes:Int)*n <= 281474976710656 /\ n <= 9223372036854775807 /\ r=List.replicate n.toNat z:=by
 unfold mkI at h
 split at h
 ·rename_i hc;exact ⟨hc.1,hc.2.1,hc.2.2.1,hc.2.2.2,(qH h).symm⟩
 ·cases h
theorem b54 {U:Uni} {a:U.AV} {n:Int} (h:e6l a=some n):a= .int .i64 n:=by
 unfold e6l at h
 split at h
 ·cases h;rfl
 ·cases h
def b8l:List (Int×Int) -> Int -> Nat
 | [],_=>0
 | q::r,k=>if q.1=k then 0 else b8l r k+1
def b02 (q:(Int×Int)×Nat):MapEntry:={key:= .int .i64 q.1.1,val:= .int .i64 q.1.2,born:=q.2}
theorem c71 (k:Int): ∀(l:List (Int×Int)) (n i:Nat),Instr.findNow (.int .i64) (.int .i64 k) ((l.zipIdx n).map b02) i=some (match b1g l k with | some v=>some (i+b8l l k,.int .i64 v) | none=>none)
 | [],n,i=>rfl
 | q::r,n,i=>by
   rw [List.zipIdx_cons,List.map_cons]
   by_cases hq:q.1=k
   ·subst hq;simp [Instr.findNow,Instr.sameNow,b02,b1g,b8l]
   ·have hk: ¬k=q.1:=fun e=>hq e.symm
    have ih:=c71 k r (n+1) (i+1)
    simp only [Instr.findNow,Instr.sameNow,b02,b1g,b8l,if_neg hq,if_true]
    have e:(k==q.1)=false:=by simpa using hk
    rw [e]
    show Instr.findNow (.int .i64) (.int .i64 k) ((r.zipIdx (n+1)).map b02) (i+1)=_
    rw [ih]
    cases b1g r k with
    | none=>rfl
    | some v=>simp;omega
theorem d3g {k:Int}: ∀{l:List (Int×Int)} {v:Int},b1g l k=some v -> b8l l k<l.length
 | [],v,h=>by cases h
 | q::r,v,h=>by
   unfold b1g at h
   unfold b8l
   split at h
   ·rename_i hq;rw [if_pos hq];simp
   ·rename_i hq;rw [if_neg hq];have:=d3g h;simpa using this
theorem b9j {k v:Int}: ∀{l:List (Int×Int)} {v0:Int} (n:Nat),b1g l k=some v0 -> ((l.zipIdx n).map b02).modify (b8l l k) (fun e=>{e with key:= .int .i64 k,val:= .int .i64 v})=((a9f l k v).zipIdx n).map b02 /\ (a9f l k v).length=l.length /\ (a9f l k v).map (·.1)=l.map (·.1)
 | [],v0,n,h=>by cases h
 | q::r,v0,n,h=>by
   unfold b1g at h
   unfold b8l a9f
   split at h
   ·rename_i hq;rw [if_pos hq,if_pos hq];subst hq;simp [List.zipIdx_cons,b02]
   ·rename_i hq
    rw [if_neg hq,if_neg hq]
    obtain ⟨h1,h2,h3⟩:=b9j (v:=v) (n+1) h
    refine ⟨?_,by simp [h2],by simp [h3]⟩
    rw [List.zipIdx_cons,List.map_cons,List.modify_succ_cons,h1,List.zipIdx_cons,List.map_cons]
theorem c5z {k v:Int}: ∀{l:List (Int×Int)},b1g l k=none -> a9f l k v=l++[(k,v)] /\ ∀q∈l,q.1≠k
 | [],h=>⟨rfl,fun q hq=>by cases hq⟩
 | q::r,h=>by
   unfold b1g at h
   unfold a9f
   split at h
   ·cases h
   ·rename_i hq
    rw [if_neg hq]
    obtain ⟨h1,h2⟩:=c5z (v:=v) h
    refine ⟨by rw [h1];rfl,fun x hx=> ?_⟩
    rcases qO.1 hx with rfl | hx
    ·exact hq
    ·exact h2 x hx
theorem c2m {P:Program} {t:TypeId} (h:c4p P t=true): ∃k e i,P.underlying t=some (.map k e) /\ P.underlying k=some (.int .i64) /\ P.info? e=some i /\ i.zero=some (.int .i64 0):=by
 unfold c4p at h
 split at h
 ·rename_i k e hu
  split at h
  ·rename_i i h1 h2
   split at h
   ·rename_i h3;exact ⟨k,e,i,hu,h1,h2,h3⟩
   ·cases h
  ·cases h
 ·cases h
section
variable {P:Program} {U:Uni} {E:Env} {Z:Nat -> Prop} {π:Nat -> Value} {σ:U.St} {ρ:Nat -> Value} {w:World}
variable {d:Option Tmp} {ty:TypeId} {ps:String} {af:Array Edge} {g:Option (Nat×Bool)} {x y z:Operand} {m0 m:Nat} {a b c v:U.AV} {ws:List (Nat×U.MC)} {fr:Nat}
theorem e3e (hU:UOK U) {e:TypeId} {c:U.C} {a:U.AV} {zv:U.T c} (hok:d06 P e (U.n c)=true) (hza:b3o P e=some a) (hzv:prj c a=some zv):
  ∃ie z,P.info? e=some ie /\ ie.zero=some z /\ ie.size=U.n c /\ 0<U.n c /\ z.cells.size=U.n c /\ ∃zr:Raw (U.n c),z.cells.toList=zr.1 /\ ∀G w,(Rp c).rep G w zr.1 zv:=by
 obtain ⟨ie,zval,hie,hz,hzs,hsz1,hp1,hp2⟩:=b69 hok
 refine ⟨ie,zval,hie,hz,hsz1,hp1,hzs,?_⟩
 unfold b3o at hza
 rw [hie] at hza
 dsimp only at hza
 rw [hz] at hza
 have key: ∀(Z':Nat -> Prop) (w':World),(Rp c).rep (cz Z' w').G w' zval.cells.toList zv:=fun Z' w'=>by
  obtain ⟨u,hu,hru⟩:=b53 hU (X:=cz Z' w') _ _ _ _ hza
  have:=b3t hU hzv hru
  rw [hu] at this
  exact this
 have key2: ∀(G:Nat -> Prop) (w':World),(Rp c).rep G w' zval.cells.toList zv:=fun G w'=>(Rp c).weaken (key (fun b=> ¬G b) w') fun b _ hg hz=>hz hg
 exact ⟨c45 (key2 noG default),rfl,key2⟩
theorem c4e (hU:UOK U) (h:Rel E Z π σ ρ w) {t:TypeId} (hx:AVR (cx Z π σ w) a (ev ρ x)) (hy:AVR (cx Z π σ w) b (ev ρ y)) (hev:(b8v P fr t a b).Ev σ m0 m v ws):
  a39 P E σ ρ w ⟨d,.makeSlice t x y,ty,ps,af,g⟩ v ws:=by
 unfold b8v at hev
 split at hev
 case h_2=>exact hev.elim
 rename_i e hu
 split at hev
 case h_2=>exact hev.elim
 rename_i c za n n' hcd hza hn hm
 split at hev
 case h_2=>exact hev.elim
 rename_i zv hok hzv
 obtain ⟨r,hr,hev⟩:=hev
 obtain ⟨hfr,m1,hm1,rfl,rfl⟩:=a9r hev
 obtain ⟨h0,rfl,hb,h63,rfl⟩:=e35 hr
 have hx:=b54 hn▸hx
 have hy:=b54 hm▸hy
 have hx:ev ρ x= .int .i64 n':=hx
 have hy:ev ρ y= .int .i64 n':=hy
 obtain ⟨ie,zval,hie,hz,hsz,hpos,hzs,zr,hzr1,hzr2⟩:=e3e hU hok hza hzv
 have hbt:c56 P e=ie.bytes:=by unfold c56;rw [hie]
 rw [hbt] at hb
 have hrun:=run_make (P:=P) w t e ie zval hu hie hz .i64 .i64 n' n' h0 (Int.le_refl _) hb h63
 refine a9a h (obj:= .cells (madeCells zval.cells (n'.toNat*ie.size)) e) (v':= .slice (some ⟨w.heap.size,0,none⟩) n'.toNat n'.toNat) hfr ?_ (fun h=>by cases h) rfl rfl (fun b hb=>hb) ?_
 ·simp [execOp,hx,hy,hrun,Result.andThen]
 ·intro X' hle hw hZ
  refine ⟨List.replicate n'.toNat zr,.inr ⟨w.heap.size,0,n'.toNat,madeCells zval.cells (n'.toNat*ie.size),by rw [List.length_replicate],Nat.zero_le _,by rw [hw];show (w.heap.push _)[w.heap.size]? =_;simp,by rw [List.length_replicate];exact Nat.le_refl _,by simp only [maxLen];omega,by rw [size_madeCells,hsz,Nat.zero_add];exact Nat.le_refl _,?_⟩,c79 (p:=fun (r:Raw (U.n c)) x=>(Rp c).rep X'.G X'.w r.1 x) (hzr2 _ _) _⟩
  have hfl:(List.replicate n'.toNat zr).flatMap Subtype.val=(List.replicate n'.toNat zval.cells.toList).flatten:=by
   rw [hzr1,List.flatMap_def,List.map_replicate]
  have hmf:=c9m zval.cells (by rw [hzs];exact hpos) n'.toNat
  rw [hzs,<- hsz] at hmf
  rw [hfl,List.drop_zero,List.length_replicate,hmf,List.take_of_length_le]
  rw [<- hmf,Array.length_toList,size_madeCells,hsz]
  exact Nat.le_refl _
theorem d07 {α:Type} {l r:List α} {i j k:Int} (h:b8u l i j k=some r):j <= k /\ k <= (l.length:Int) /\ a0j l i j=some r:=by
 unfold b8u at h
 split at h
 ·rename_i hc;exact ⟨hc.1,hc.2,h⟩
 ·cases h
theorem c3g (h:Rel E Z π σ ρ w) {t:TypeId} {c:U.C} {l r:List (U.T c)} {lo:Option Operand} {hi mx:Operand} {i j k:Int} (hx:j5 (Rp c) (cx Z π σ w).G w (ev ρ x) l) (he:a9p P t c=true)
  (hlo:(lo.map (ev ρ)=none /\ i=0) \/ lo.map (ev ρ)=some (.int .i64 i)) (hhi:((some hi).map (ev ρ)=none /\ j=0) \/ (some hi).map (ev ρ)=some (.int .i64 j)) (hmx:((some mx).map (ev ρ)=none /\ k=0) \/ (some mx).map (ev ρ)=some (.int .i64 k)) (hs:b8u l i j k=some r):
  a39 P E σ ρ w ⟨d,.slice t x lo (some hi) (some mx),ty,ps,af,g⟩ (.list c r) []:=by
 obtain ⟨e,he1,he2,_,_⟩:=a90 he
 obtain ⟨s1,s2,s3⟩:=d07 hs
 rcases hhi with ⟨hh,_⟩ | hhi
 ·cases hh
 rcases hmx with ⟨hh,_⟩ | hmx
 ·cases hh
 have hhi:ev ρ hi= .int .i64 j:=by simpa using hhi
 have hmx:ev ρ mx= .int .i64 k:=by simpa using hmx
 obtain ⟨u,hrun,hrep⟩:=e43 (P:=P) he1 (a7g he2) hx s3 s1 s2 hlo
 exact d9 h (v:=u) (by simp [YV,execOp,hhi,hmx,hrun]) hrep
theorem d1j (hU:UOK U) (h:Rel E Z π σ ρ w) {t:TypeId} {lo:Option Operand} {hi mx:Operand} (hx:AVR (cx Z π σ w) a (ev ρ x)) (hev:(d1n P t a lo hi mx).Ev σ m0 m v ws):
  a39 P E σ ρ w ⟨d,.slice t x lo (some hi) (some mx),ty,ps,af,g⟩ v ws:=by
 unfold d1n at hev
 split at hev
 ·rename_i c l
  split at hev
  ·rename_i he
   obtain ⟨i,m1,hev,hlo⟩:=a9d h hev
   obtain ⟨j,m2,hev,hhi⟩:=a9d h hev
   obtain ⟨k,m3,hev,hmx⟩:=a9d h hev
   obtain ⟨r,hr,hm1,rfl,rfl⟩:=hev
   exact c3g h hx he hlo hhi hmx hr
  ·exact hev.elim
 ·rename_i id
  have hm:=h.mem id
  simp only [Q.Ev] at hev
  split at hev
  ·rename_i e0 c l hmem
   split at hev
   ·rename_i he
    obtain ⟨i,m1,hev,hlo⟩:=a9d h hev
    obtain ⟨j,m2,hev,hhi⟩:=a9d h hev
    obtain ⟨k,m3,hev,hmx⟩:=a9d h hev
    obtain ⟨r,hr,hm1,rfl,rfl⟩:=hev
    have hfz:FZ σ [(id,.fz c l)]:=by
     intro id' m' hh
     simp at hh
     obtain ⟨rfl,rfl⟩:=hh
     exact ⟨e0,c,l,hmem,rfl⟩
    refine b4e (ws:=[]) h hfz ?_
    have h1:=h.freeze hfz
    refine c3g h1 ?_ he hlo hhi hmx hr
    have hm1:=h1.mem id
    rw [m5,b36] at hm1
    rw [hx.2.1];exact hm1
   ·exact hev.elim
  ·rename_i c l hmem
   split at hev
   ·rename_i he
    obtain ⟨i,m1,hev,hlo⟩:=a9d h hev
    obtain ⟨j,m2,hev,hhi⟩:=a9d h hev
    obtain ⟨k,m3,hev,hmx⟩:=a9d h hev
    obtain ⟨r,hr,hm1,rfl,rfl⟩:=hev
    rw [hmem] at hm
    exact c3g h (by rw [hx.2.1];exact hm) he hlo hhi hmx hr
   ·exact hev.elim
  ·exact hev.elim
 ·exact hev.elim
theorem c8n (h:Rel E Z π σ ρ w) {t:TypeId} (hev:(c6k fr:U.Q).Ev σ m0 m v ws):a39 P E σ ρ w ⟨d,.makeMap t none,ty,ps,af,g⟩ v ws:=by
 unfold c6k at hev
 obtain ⟨hn,m1,hm,rfl,rfl⟩:=a9r hev
 refine a9a h (obj:= .map #[] 0) (v':= .map (some w.heap.size)) hn ?_ (fun h=>by cases h) rfl rfl (fun b hb=>hb) ?_
 ·rfl
 ·intro X' _ hw _;exact ⟨w.heap.size,rfl,List.nodup_nil,by rw [hw];show (w.heap.push (.map #[] 0))[w.heap.size]? =_;simp [b48]⟩
theorem d5q {t:TypeId} {l:List (Int×Int)} {k:Int} {b:Nat} {ok:Bool} (ht:c4p P t=true) (hb:w.heap[b]? =some (b48 l)):
  (Instr.lookup t (.map (some b)) (.int .i64 k) ok).run P w= .ok (if ok then .tuple #[.int .i64 (b3x l k),.bool (c38 l k)] else .int .i64 (b3x l k)) w:=by
 obtain ⟨kt,et,i,h1,h2,h3,h4⟩:=c2m ht
 have hf:=c71 k l 0 0
 have hk:(Instr.findKey kt (.int .i64 k) ((l.zipIdx 0).map b02)).run P w=_:=MapKept.run_findKey (P:=P) (w:=w) h2 hf
 have hg:(getObj b).run P w= .ok (.map ((l.zipIdx 0).map b02).toArray l.length) w:=MapKept.run_getObj_map hb
 have hc: ∀e,(Instr.checkKey e 10000 kt (.int .i64 k)).run P w= .ok () w:=fun e=>MapKept.run_checkKey (d:= .int .i64) h2 (by rfl) e 9999
 cases hget:b1g l k with
 | none=>
   rw [hget] at hk
   cases ok<;>simp [Instr.lookup,run_underlying h1,hg,hc,hk,zeroValue,typeInfo,h3,h4,b3x,c38,hget,Result.andThen]
 | some v0=>
   rw [hget] at hk
   cases ok<;>simp [Instr.lookup,run_underlying h1,hg,hc,hk,b3x,c38,hget,Result.andThen]
theorem d1a (h:Rel E Z π σ ρ w) {t:TypeId} {ok:Bool} (hx:AVR (cx Z π σ w) a (ev ρ x)) (hy:AVR (cx Z π σ w) b (ev ρ y)) (hev:(d29 P t a b ok).Ev σ m0 m v ws):
  a39 P E σ ρ w ⟨d,.lookup t x y ok,ty,ps,af,g⟩ v ws:=by
 unfold d29 at hev
 split at hev
 case h_2=>exact hev.elim
 rename_i id k hk ht
 have hm:=h.mem id
 simp only [Q.Ev] at hev
 split at hev
 case h_2=>exact hev.elim
 rename_i l hmem
 rw [hmem] at hm
 obtain ⟨bl,hv,_,hb⟩:=hm
 have hxv:ev ρ x= .map (some bl):=by rw [hx.2.1];exact hv
 have hy:=b54 hk▸hy
 have hy:ev ρ y= .int .i64 k:=hy
 have hrun:=d5q (P:=P) (w:=w) (k:=k) (ok:=ok) ht hb
 cases ok
 ·obtain ⟨hm1,rfl,rfl⟩:=hev
  exact d9 h (v:= .int .i64 (b3x l k)) (by simp [YV,execOp,hxv,hy,hrun]) rfl
 ·obtain ⟨hm1,rfl,rfl⟩:=hev
  exact d9 h (v:= .tuple #[.int .i64 (b3x l k),.bool (c38 l k)]) (by simp [YV,execOp,hxv,hy,hrun]) ⟨[.int .i64 (b3x l k),.bool (c38 l k)],rfl,rfl,rfl,trivial⟩
theorem c6o {t:TypeId} {l:List (Int×Int)} {k u:Int} {b:Nat} (ht:c4p P t=true) (hb:w.heap[b]? =some (b48 l)) (hnd:(l.map (·.1)).Nodup):
  (Instr.mapUpdate t (.map (some b)) (.int .i64 k) (.int .i64 u)).run P w= .ok () {w with heap:=w.heap.setIfInBounds b (b48 (a9f l k u))} /\ ((a9f l k u).map (·.1)).Nodup:=by
 obtain ⟨kt,et,i,h1,h2,h3,h4⟩:=c2m ht
 have hf:=c71 k l 0 0
 have hk:(Instr.findKey kt (.int .i64 k) ((l.zipIdx 0).map b02)).run P w=_:=MapKept.run_findKey (P:=P) (w:=w) h2 hf
 have hb':w.heap[b]? =some (.map ((l.zipIdx 0).map b02).toArray l.length):=hb
 have hg:(getObj b).run P w= .ok (.map ((l.zipIdx 0).map b02).toArray l.length) w:=MapKept.run_getObj_map hb'
 have hs: ∀o,(setObj b o).run P w= .ok () {w with heap:=w.heap.setIfInBounds b o}:=fun o=>MapKept.run_setObj_map o hb'
 have hc: ∀e,(Instr.checkKey e 10000 kt (.int .i64 k)).run P w= .ok () w:=fun e=>MapKept.run_checkKey (d:= .int .i64) h2 (by rfl) e 9999
 cases hget:b1g l k with
 | none=>
   rw [hget] at hk
   obtain ⟨e1,e2⟩:=c5z (v:=u) hget
   constructor
   ·rw [e1]
    simp [Instr.mapUpdate,run_underlying h1,hg,hc,hk,hs,Result.andThen,b48,List.zipIdx_append]
    rfl
   ·rw [e1,List.map_append,List.nodup_append]
    refine ⟨hnd,by simp,fun p hp q hq=> ?_⟩
    obtain ⟨x,hx,rfl⟩:=List.mem_map.1 hp
    simp only [List.map_cons,List.map_nil,qF] at hq
    rw [hq];exact e2 x hx
 | some v0=>
   rw [hget] at hk
   obtain ⟨e1,e2,e3⟩:=b9j (v:=u) 0 hget
   have hix:=d3g hget
   have hlt:b8l l k<((l.zipIdx 0).map b02).length:=by simpa using hix
   have hkey: ∃e0,((l.zipIdx 0).map b02)[b8l l k]? =some e0:=⟨_,qG hlt⟩
   obtain ⟨e0,he0⟩:=hkey
   have hek:e0.key= .int .i64 k:=by
    have: ∀(l:List (Int×Int)) (n:Nat) (v0:Int) (e0:MapEntry),b1g l k=some v0 -> ((l.zipIdx n).map b02)[b8l l k]? =some e0 -> e0.key= .int .i64 k:=by
     intro l
     induction l with
     | nil=>intro n v0 e0 hh;cases hh
     | cons q r ih=>
       intro n v0 e0 hh h0
       unfold b1g at hh
       unfold b8l at h0
       split at hh
       ·rename_i hq
        rw [if_pos hq] at h0
        simp [List.zipIdx_cons,b02] at h0
        rw [<- h0,<- hq]
       ·rename_i hq
        rw [if_neg hq,List.zipIdx_cons,List.map_cons,List.getElem?_cons_succ] at h0
        exact ih _ _ _ hh h0
    exact this l 0 v0 e0 hget he0
   constructor
   ·have hst:(Instr.keyThatStays (.int .i64 k) (.int .i64 k)).run P w= .ok (.int .i64 k) w:=MapKept.run_keyThatStays (d:= .int .i64) (by rfl)
    have hki:((((l.zipIdx 0).map b02).toArray[0+b8l l k]?).map (·.key)).getD (.int .i64 k)= .int .i64 k:=by
     rw [Nat.zero_add,List.getElem?_toArray,he0];exact hek
    simp only [Instr.mapUpdate,Sem.run_bind,run_underlying h1,hg,hc,hk,Result.andThen,hki,hst,hs]
    have:(((l.zipIdx 0).map b02).toArray.modify (0+b8l l k) fun e=>{e with key:= .int .i64 k,val:= .int .i64 u})=((a9f l k u).zipIdx.map b02).toArray:=by
     rw [Nat.zero_add,List.modify_toArray,e1]
    rw [this,<- e2]
    rfl
   ·rw [e3];exact hnd
theorem c47 (h:Rel E Z π σ ρ w) {t:TypeId} (hx:AVR (cx Z π σ w) a (ev ρ x)) (hy:AVR (cx Z π σ w) b (ev ρ y)) (hz:AVR (cx Z π σ w) c (ev ρ z)) (hev:(b97 P t a b c).Ev σ m0 m v ws):
  a39 P E σ ρ w ⟨d,.mapUpdate t x y z,ty,ps,af,g⟩ v ws:=by
 unfold b97 at hev
 split at hev
 case h_2=>exact hev.elim
 rename_i id k u hk hu ht
 have hm:=h.mem id
 simp only [Q.Ev] at hev
 split at hev
 case h_2=>exact hev.elim
 rename_i l hmem
 obtain ⟨hm1,rfl,rfl⟩:=hev
 rw [hmem] at hm
 obtain ⟨bl,hv,hnd,hb⟩:=hm
 have hxv:ev ρ x= .map (some bl):=by rw [hx.2.1];exact hv
 have hy:=b54 hk▸hy
 have hy:ev ρ y= .int .i64 k:=hy
 have hz:=b54 hu▸hz
 have hz:ev ρ z= .int .i64 u:=hz
 obtain ⟨hrun,hnd'⟩:=c6o (P:=P) (w:=w) (k:=k) (u:=u) ht hb hnd
 have hlt:bl<w.heap.size:=(qN.1 hb).1
 unfold a39 y9
 have hex:(execOp (ev ρ) ⟨d,.mapUpdate t x y z,ty,ps,af,g⟩).run P w= .ok .skip {w with heap:=w.heap.setIfInBounds bl (b48 (a9f l k u))}:=by
  simp [execOp,hxv,hy,hz,hrun,Result.andThen]
 rw [hex]
 have hE:Ext (fun b=>MB (σ.mem id) (π id) b) w {w with heap:=w.heap.setIfInBounds bl (b48 (a9f l k u))}:=⟨rfl,rfl,rfl,by simp,fun q hq hne=>by
  have:bl≠q:=fun e=>hne (by rw [hmem,hv,e];rfl)
  simp [this]⟩
 refine ⟨Z,π,h.set (a:= .unk) (fun hh=>by rw [hmem] at hh;cases hh) (fun hh=>by cases hh) hE (fun X' _ hw=> ?_) (fun y hy=> ?_) fun X' _=>trivial⟩
 ·exact ⟨bl,hv,hnd',by rw [hw];simp [hlt]⟩
 ·rw [hmem];exact hy
end
end Go.SX
