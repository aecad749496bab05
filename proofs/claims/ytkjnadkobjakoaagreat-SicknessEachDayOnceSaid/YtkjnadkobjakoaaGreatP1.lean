/- Texts of the proof, joined. -/
import Derived.Calls
import Derived.Orders
import Derived.LoopN
import Derived.LoopNIn
import Derived.OrdersIn
import Derived.Below
import Derived.KernelRfl
import Derived.Laws.Sem
import Derived.Laws.AppendOwn
import Derived.Deep.Slices
import Derived.Laws.StructEq
import Derived.Lib.BytesEntry
import Derived.Lib.Bytealg
import Derived.Laws.BytesString
import Derived.DataElems
set_option linter.unusedVariables false
set_option linter.unusedSimpArgs false
set_option maxRecDepth 100000
namespace Go
theorem qA:∀{α:Type _}{β:Type _}(a:α)(f:α -> Option β),Option.bind (some a) f=f a:=fun _ _=>rfl
theorem qB:∀(a b:Bool),((a&&b)=true)=(a=true/\b=true):=@Bool.and_eq_true
theorem qC:∀{n m:Nat},Nat.beq n m=true -> n=m:=@Nat.eq_of_beq_eq_true
theorem qD:∀{α:Type _}{i:Nat}{a:α}{l:List α},l[i]? =some a↔∃h:i<l.length,l[i]=a:=@List.getElem?_eq_some_iff
theorem qE:∀{α:Type _}{l:List α}{i:Nat}{a:α},l[i]? =some a -> a∈l:=@List.mem_of_getElem?
theorem qF:∀{α:Type _}{a b:α},a∈[b]↔a=b:=@List.mem_singleton
theorem qG:∀{α:Type _}{l:List α}{i:Nat}(h:i<l.length),l[i]? =some l[i]:=@List.getElem?_eq_getElem
theorem qH:∀{α:Type _}{a b:α},some a=some b -> a=b:=@Option.some.inj
theorem qI:∀{α:Type _}{a:α}{l:List α},a∈a::l:=@List.mem_cons_self
theorem qJ:∀{α:Type _}(y:α){a:α}{l:List α},a∈l -> a∈y::l:=@List.mem_cons_of_mem
theorem qK:∀{α:Type _}{a:α}{s t:List α},a∈s++t↔a∈s\/a∈t:=@List.mem_append
theorem qL:∀{α:Type _}{a b:List α},(a++b).length=a.length+b.length:=@List.length_append
theorem qM:(false=true)=False:=Bool.false_eq_true
theorem qN:∀{α:Type _}{i:Nat}{b:α}{xs:Array α},xs[i]? =some b↔∃h:i<xs.size,xs[i]=b:=@Array.getElem?_eq_some_iff
theorem qO:∀{α:Type _}{b:α}{l:List α}{a:α},a∈b::l↔a=b\/a∈l:=@List.mem_cons
end Go
namespace Go.PL
open Go
def Frd (n:Nat) (ρ:Nat -> Value) (ds:List Deferred):Act:={tmps:=Array.ofFn (n:=n) fun i=>ρ i.1,defers:=ds}
abbrev Fr (n:Nat) (ρ:Nat -> Value):Act:=Frd n ρ []
def upd (ρ:Nat -> Value) (d:Nat) (v:Value):Nat -> Value:=fun t=>if t=d then v else ρ t
def a9j (ρ:Nat -> Value):Option Tmp -> Value -> (Nat -> Value)
 | some d,v=>upd ρ d v
 | none,_=>ρ
def ev (ρ:Nat -> Value):Operand -> Value
 | .tmp t=>ρ t
 | .const v=>v
 | .global g=> .pointer (some ⟨g,0,none⟩)
 | .func f=> .func (.func f) #[] #[]
def Operand.below (n:Nat):Operand -> Bool
 | .tmp t=>decide (t<n)
 | _=>true
theorem e2u (ρ:Nat -> Value) (d:Nat) (v:Value):upd ρ d v d=v:=by simp [upd]
theorem b5q (ρ:Nat -> Value) {d t:Nat} (v:Value) (h:t≠d):upd ρ d v t=ρ t:=by simp [upd,h]
theorem c04 (n:Nat) (ρ:Nat -> Value) (ds:List Deferred) (d:Option Tmp) (v:Value):(Frd n ρ ds).put d v=Frd n (a9j ρ d v) ds:=by
 cases d with
 | none=>rfl
 | some d=>
   simp only [Act.put,Frd,a9j]
   congr 1
   apply Array.ext
   ·simp
   ·intro i h1 h2
    simp [upd]
    split<;>simp_all [eq_comm]
theorem f4t {n:Nat} (ρ:Nat -> Value) {ds:List Deferred} {t:Nat} (h:t<n):(Frd n ρ ds).tmps[t]? =some (ρ t):=by
 simp [Frd,h]
theorem b0s {n:Nat} {ρ:Nat -> Value} {ds:List Deferred} {x:Operand} (h:Operand.below n x=true):(Frd n ρ ds).eval x=ev ρ x:=by
 cases x with
 | tmp t=>
   have ht:t<n:=by simpa [Operand.below] using h
   simp [Act.eval,ev,Frd,ht]
 | const v=>rfl
 | global g=>rfl
 | func f=>rfl
structure Ext (G:Nat -> Prop) (w w':World):Prop where
 os:w'.os=w.os
 tape:w'.tape=w.tape
 output:w'.output=w.output
 size:w.heap.size <= w'.heap.size
 block: ∀b,b<w.heap.size -> ¬G b -> w'.heap[b]? =w.heap[b]?
def noG:Nat -> Prop:=fun _=>False
theorem Ext.refl (G:Nat -> Prop) (w:World):Ext G w w:=⟨rfl,rfl,rfl,Nat.le_refl _,fun _ _ _=>rfl⟩
theorem Ext.trans {G:Nat -> Prop} {a b c:World} (h:Ext G a b) (k:Ext G b c):Ext G a c:=
 ⟨k.os.trans h.os,k.tape.trans h.tape,k.output.trans h.output,Nat.le_trans h.size k.size,fun i hi hg=>(k.block i (Nat.lt_of_lt_of_le hi h.size) hg).trans (h.block i hi hg)⟩
theorem Ext.mono {G G':Nat -> Prop} {a b:World} (h:Ext G a b) (hG: ∀i,G i -> G' i):Ext G' a b:=
 ⟨h.os,h.tape,h.output,h.size,fun i hi hg=>h.block i hi (fun hh=>hg (hG i hh))⟩
theorem Ext.of_no {G:Nat -> Prop} {a b:World} (h:Ext noG a b):Ext G a b:=h.mono (fun _ hh=>hh.elim)
theorem Ext.drew {G:Nat -> Prop} {a w:World} (h:Ext G a w):Ext G a w.drew:=⟨h.os,h.tape,h.output,h.size,h.block⟩
theorem Ext.below {w w':World} (h:Ext noG w w'):RowKit.Below w.heap.size w w':=⟨h.os,h.tape,h.output,h.size,fun k hk=>h.block k hk (fun hh=>hh)⟩
theorem Ext.alloc (G:Nat -> Prop) (w:World) (o:Obj):Ext G w (w.alloc o):=
 ⟨rfl,rfl,rfl,by simp,fun k hk _=>RowKit.Below.heap_alloc _ _ _ hk⟩
def y9 (P:Program) (o:Oper) (η:Operand -> Value) (w:World) (K:Value -> World -> Prop):Prop:=
 match (execOp η o).run P w with
 | .ok (.value v) w'=>K v w'
 | .ok .skip w'=>K undef w'
 | .ok (.enter f args) w'=>Calls P f args w' fun e w''=> ∃v,e= .returned v /\ K v w''
 | _=>False
def FR (r:Option Nat):Fence:={Fence.wide with round:=r}
theorem e4q {r:Option Nat} {m:Nat} {P:Program} {f:FuncId} {args:Array Value} {w:World} {R:Ending -> World -> Prop} (h:Calls P f args w R):CallsIn (FR r) m P f args w R:=callsIn_wide.2 h
theorem y9.wp {P:Program} {o:Oper} {a:Act} {w:World} {K:Value -> World -> Prop} {next:Act -> World -> Prop} {Q:Exit -> Act -> World -> Prop} {r:Option Nat} {m:Nat}
  (h:y9 P o a.eval w K) (hn: ∀v w',K v w' -> next (a.put o.dst v) w'):o.wpIn (FR r) m P a w next Q:=by
 have hd: ∀c,o.op≠ .defer c:=by
  intro c hc
  unfold y9 at h
  simp only [execOp,hc,Sem.run_bind] at h
  cases hr:(resolve a.eval c o.type).run P w<;>rw [hr] at h<;>simp [Result.andThen] at h
 refine ⟨fun _ _=>trivial,?_⟩
 rw [Oper.semAt_eq _ _ _ hd]
 unfold y9 at h
 generalize (execOp a.eval o).run P w=q at*
 cases q with
 | ok x w'=>
   cases x with
   | value v=>exact hn _ _ h
   | skip=>exact hn _ _ h
   | enter f args=>exact ⟨fun hh=>Bool.noConfusion (show false=true from hh),e4q (Calls.mono h fun e w'' ⟨v,he,hk⟩=>by subst he;exact hn _ _ hk)⟩
   | _=>exact h.elim
 | halt x w'=>exact h.elim
theorem y9.mono {P:Program} {o:Oper} {η:Operand -> Value} {w:World} {K K':Value -> World -> Prop}
  (h:y9 P o η w K) (hn: ∀v w',K v w' -> K' v w'):y9 P o η w K':=by
 unfold y9 at*
 generalize (execOp η o).run P w=r at*
 cases r with
 | ok x w'=>
   cases x<;>simp only [] at* <;>first
    | exact hn _ _ h
    | exact h.mono (fun e w'' ⟨v,he,hk⟩=>⟨v,he,hn _ _ hk⟩)
 | halt x w'=>exact h
def yl (ops:List Oper) (ρ:Nat -> Value) (g:Nat):Option Bool:=
 match (ops[g]?).bind (·.dst) with
 | some d=>match ρ d with | .bool b=>some b | _=>none
 | none=>none
abbrev Fact:=Nat×(Value -> World -> Prop)
def fact (F:List Fact) (i:Nat) (ρ:Nat -> Value) (w:World):Prop:=
 match F[i]? with
 | some f=>f.2 (ρ f.1) w
 | none=>True
def hdV:Value -> Option Nat
 | .pointer (some a)=>some a.block
 | .slice (some a) _ _=>some a.block
 | .map (some b)=>some b
 | _=>none
structure Plan where
 B:List (List Nat)
 U:List (List Nat)
 E:List (List Nat)
 mu:List Nat:=[]
 con:List (Nat×Nat):=[]
 nw:List (Nat×Nat):=[]
 tb:List (Nat×Nat):=[]
namespace Plan
def b (p:Plan) (i:Nat):List Nat:=p.B.getD i []
def okB (p:Plan) (ops:List Oper):Bool:=
 (List.range ops.length).all fun i=>(p.b i).all fun j=>
  match ops[i]? with
  | some o=>o.after.toList.any fun x=>Region.binds .any x&&decide (x.on<i)&&(x.on==j||(p.b x.on).contains j)
  | none=>false
def okAfter (ops:List Oper):Bool:=
 (List.range ops.length).all fun i=>
  match ops[i]? with
  | some o=>o.after.toList.all fun x=> !Region.binds .any x||decide (x.on<i)
  | none=>false
def okTmps (ops:List Oper) (n:Nat):Bool:=
 ops.all fun o=>o.op.operands.toList.all (Operand.below n)&&(match o.dst with | some d=>decide (d<n) | none=>true)
def okSel (ops:List Oper):Bool:=ops.all fun o=>match o.op with | .select _ _=>false | _=>true
end Plan
section
variable {P:Program} {ops:List Oper} {n:Nat} {G:Nat -> Prop} {ρ0:Nat -> Value} {w0:World} {F:List Fact} {p:Plan}
theorem e0u {m:Nat} {q:Nat -> Bool} (h:(List.range m).all q=true) {i:Nat} (hi:i<m):q i=true:=
 List.all_eq_true.1 h i (List.mem_range.2 hi)
theorem d6a (hT:Plan.okTmps ops n=true) (ρ:Nat -> Value) {ds:List Deferred} (g:Nat):yielded ops.toArray (Frd n ρ ds).tmps g=yl ops ρ g:=by
 unfold yielded yl
 simp only [List.getElem?_toArray]
 cases ho:(ops[g]?).bind (·.dst) with
 | none=>simp
 | some d=>
   simp only [qA]
   have hd:d<n:=by
    cases h2:ops[g]? with
    | none=>simp [h2] at ho
    | some o=>
      simp only [h2,qA] at ho
      have h3:=List.all_eq_true.1 hT o (qE h2)
      simp only [ho,qB,decide_eq_true_eq] at h3
      exact h3.2
   rw [f4t ρ hd]
   cases ρ d<;>rfl
theorem b5f (hT:Plan.okTmps ops n=true) (hS:Plan.okSel ops=true) {i:Nat} {o:Oper} (ho:ops[i]? =some o) (ρ:Nat -> Value) {ds:List Deferred}:execOp (Frd n ρ ds).eval o=execOp (ev ρ) o:=by
 have hm:=qE ho
 refine execOp_congr o (fun cs b hh=> ?_) (fun x hx=> ?_)
 ·have h1:=List.all_eq_true.1 hS o hm
  simp [hh] at h1
 ·have h1:=List.all_eq_true.1 hT o hm
  simp only [qB] at h1
  exact b0s (List.all_eq_true.1 h1.1 x (Array.mem_toList_iff.2 hx))
def c41:Code -> Bool
 | .seq a b=>c41 a&&c41 b
 | .cond _ a b=>c41 a&&c41 b
 | .block _ c | .loop c | .scope c=>c41 c
 | .rangeFunc _ _ _ _=>false
 | _=>true
theorem d30 {a b:Code} {r:Option Nat} (h:r=none \/ (c41 a&&c41 b)=true):(r=none \/ c41 a=true) /\ (r=none \/ c41 b=true):=by
 rcases h with h | h
 ·exact ⟨.inl h,.inl h⟩
 ·simp only [qB] at h
  exact ⟨.inr h.1,.inr h.2⟩
def WP (P:Program) (n:Nat) (c:Code) (Q:Exit -> (Nat -> Value) -> World -> Prop) (ρ:Nat -> Value) (w:World):Prop:=
 ∀(r:Option Nat) (ds:List Deferred),(r=none \/ c41 c=true) -> c.wpIn (FR r) 9 P (fun e a w=> ∃ρ',a=Frd n ρ' ds /\ Q e ρ' w) (Frd n ρ ds) w
end
section
variable {P:Program} {n:Nat} {Q:Exit -> (Nat -> Value) -> World -> Prop} {ρ:Nat -> Value} {w:World}
theorem b5p: ∀(n:Nat) (l:List Nat),l.Nodup -> (∀i∈l,i<n) -> l.length <= n
 | 0,l,_,h=>by
   cases l with
   | nil=>simp
   | cons x r=>exact absurd (h x (by simp)) (Nat.not_lt_zero _)
 | n+1,l,hnd,h=>by
   by_cases hm:n∈l
   ·have h1:=b5p n (l.erase n) (hnd.erase n) (fun i hi=>by
     have h2:=h i (List.mem_of_mem_erase hi)
     have h3:i≠n:=fun e=>(List.Nodup.not_mem_erase hnd) (e▸hi)
     omega)
    rw [List.length_erase_of_mem hm] at h1
    omega
   ·have h1:=b5p n l hnd (fun i hi=>by
     have h2:=h i hi
     have h3:i≠n:=fun e=>hm (e▸hi)
     omega)
    omega
def c8p (K:(Nat -> Value) -> World -> Prop) (Q:Exit -> (Nat -> Value) -> World -> Prop):Exit -> (Nat -> Value) -> World -> Prop
 | .normal,ρ,w=>K ρ w
 | e,ρ,w=>Q e ρ w
def d57 (id:Nat) (Q:Exit -> (Nat -> Value) -> World -> Prop):Exit -> (Nat -> Value) -> World -> Prop
 | .exit id',ρ,w=>if id'=id then Q .normal ρ w else Q (.exit id') ρ w
 | e,ρ,w=>Q e ρ w
theorem WP.skip (h:Q .normal ρ w):WP P n .skip Q ρ w:=fun _ _ _=>wpIn_skip ⟨ρ,rfl,h⟩
theorem WP.exit {id:Nat} (h:Q (.exit id) ρ w):WP P n (.exit id) Q ρ w:=fun _ _ _=>wpIn_exit ⟨ρ,rfl,h⟩
theorem WP.ret (h:Q .ret ρ w):WP P n .ret Q ρ w:=fun _ _ _=>wpIn_ret ⟨ρ,rfl,h⟩
theorem WP.seq {x y:Code} (h:WP P n x (c8p (WP P n y Q) Q) ρ w):WP P n (.seq x y) Q ρ w:=by
 intro r ds hr
 obtain ⟨hx,hy⟩:=d30 hr
 refine wpIn_seq (wpIn_mono (h r ds hx) ?_)
 rintro e a w' ⟨ρ',rfl,hh⟩
 cases e<;>first | exact hh r ds hy | exact ⟨ρ',rfl,hh⟩
theorem WP.cond {c:Operand} {x y:Code} {t:Bool} (hb:Operand.below n c=true) (hc:ev ρ c= .bool t) (ht:t=true -> WP P n x Q ρ w) (hf:t=false -> WP P n y Q ρ w):WP P n (.cond c x y) Q ρ w:=by
 intro r ds hr
 obtain ⟨hx,hy⟩:=d30 hr
 exact wpIn_cond_split (t:=t) (by rw [b0s hb,hc]) (fun h=>ht h r ds hx) (fun h=>hf h r ds hy)
theorem WP.block {id:Nat} {c:Code} (h:WP P n c (d57 id Q) ρ w):WP P n (.block id c) Q ρ w:=by
 intro r ds hr
 refine wpIn_block (wpIn_mono (h r ds hr) ?_)
 rintro e a w' ⟨ρ',rfl,hh⟩
 cases e<;>first
  | exact ⟨ρ',rfl,hh⟩
  | (rename_i id'
     simp only [d57,Exit.inBlock] at hh⊢
     by_cases hid:id'=id
     ·simp only [hid,if_true] at hh ⊢; exact ⟨ρ',rfl,hh⟩
     ·simp only [hid,if_false] at hh ⊢; exact ⟨ρ',rfl,hh⟩)
theorem WP.loop {c:Code} (I:Nat -> (Nat -> Value) -> World -> Prop) (k:Nat) (h0:I k ρ w) (hz: ∀ρ w,¬I 0 ρ w)
  (step: ∀k ρ w,I (k+1) ρ w -> WP P n c (c8p (I k) Q) ρ w):WP P n (.loop c) Q ρ w:=by
 intro r ds hr
 have key: ∀k ρ w,I k ρ w -> Code.roundsIn (FR r) 9 P c (fun e a w=> ∃ρ',a=Frd n ρ' ds /\ Q e ρ' w) k (Frd n ρ ds) w:=by
  intro k
  induction k with
  | zero=>intro ρ w h;exact (hz ρ w h).elim
  | succ k ih=>
    intro ρ w h
    rw [roundsIn_succ]
    refine wpIn_mono (step k ρ w h r ds hr) ?_
    rintro e a w' ⟨ρ',rfl,hh⟩
    cases e<;>first | exact ih _ _ hh | exact ⟨ρ',rfl,hh⟩
 exact wpIn_loop_rounds k (key k ρ w h0)
def retQ (P:Program) (n:Nat) (fn:Func) (R:Value -> World -> Prop):Exit -> (Nat -> Value) -> World -> Prop
 | .normal,ρ,w | .ret,ρ,w=> ∃v,(results fn (Fr n ρ).tmps).run P w= .ok v w /\ R v w
 | _,_,_=>False
theorem Calls.of_WP {f:FuncId} {fn:Func} {c:Code} {args:List Value} {R:Value -> World -> Prop}
  (hf:P.funcs[f]? =some fn) (hb:fn.body=some c) (hn:fn.ntmps=n) (hargs:args.length <= n)
  (h:WP P n c (retQ P n fn R) (fun t=>args.getD t undef) w):Calls P f args.toArray w fun e w'=> ∃v,e= .returned v /\ R v w':=by
 refine calls_of_wp hf hb (wpIn_wide (n:=9).1 ?_)
 have ha:({tmps:=args.toArray++Array.replicate (fn.ntmps-args.toArray.size) undef,defers:=[]}:Act)=Fr n (fun t=>args.getD t undef):=by
  unfold Fr Frd
  congr 1
  apply Array.ext
  ·simp [hn];omega
  ·intro i h1 h2
   rcases Nat.lt_or_ge i args.length with h3 | h3
   ·simp [h3]
   ·simp [h3,Nat.not_lt.2 h3]
 rw [ha]
 refine wpIn_mono (h none [] (.inl rfl)) ?_
 rintro e a w' ⟨ρ',rfl,hh⟩
 cases e<;>simp only [retQ] at hh<;>first
  | exact hh.elim
  | (obtain ⟨v,h1,h2⟩:=hh
     exact ⟨rfl,v,h1,v,rfl,h2⟩)
end
def Plan.plain (B U E:List (List Nat)) (mu:List Nat) (con:List (Nat×Nat)):Plan:=⟨B,U,E,mu,con,[],[]⟩
end Go.PL
namespace Go.PL
open Go
abbrev YV (P:Program) (η:Operand -> Value) (w:World) (o:Oper) (v:Value):Prop:=(execOp η o).run P w= .ok (.value v) w
section
variable {P:Program} {η:Operand -> Value} {w:World} {d:Option Tmp} {ty:TypeId} {ps:String} {af:Array Edge} {g:Option (Nat×Bool)} {x y z:Operand} {v u:Value}
def i64 (n:Int):Int:=IntKind.i64.wrap n
def u64 (n:Int):Int:=IntKind.u64.wrap n
theorem b4w (h:η x=v):YV P η w ⟨d,.move x,ty,ps,af,g⟩ v:=by subst h;rfl
theorem b3q (h:η x=v):YV P η w ⟨d,.assign x,ty,ps,af,g⟩ v:=by subst h;rfl
theorem d4u {a:Value} (hc:η x= .bool true) (h:η y=a):YV P η w ⟨d,.pick x y z,ty,ps,af,g⟩ a:=by
 subst h;simp [YV,execOp,hc,asBool]
theorem d3a {a:Value} (hc:η x= .bool false) (h:η z=a):YV P η w ⟨d,.pick x y z,ty,ps,af,g⟩ a:=by
 subst h;simp [YV,execOp,hc,asBool]
section
variable {t t':TypeId} {k:IntKind} {a b c:Int} {q:Bool}
theorem f3k (hx:η x= .int k a) (hy:η y= .int k b) (h:k.wrap (a+b)=c):YV P η w ⟨d,.binOp .add t x y t',ty,ps,af,g⟩ (.int k c):=by
 subst h;simp [YV,execOp,hx,hy,eqGuard,binOp,Op.intArith]
theorem f1c (hx:η x= .int k a) (hy:η y= .int k b) (h:k.wrap (a-b)=c):YV P η w ⟨d,.binOp .sub t x y t',ty,ps,af,g⟩ (.int k c):=by
 subst h;simp [YV,execOp,hx,hy,eqGuard,binOp,Op.intArith]
theorem f6w (hx:η x= .int k a) (hy:η y= .int k b) (h:k.wrap (a*b)=c):YV P η w ⟨d,.binOp .mul t x y t',ty,ps,af,g⟩ (.int k c):=by
 subst h;simp [YV,execOp,hx,hy,eqGuard,binOp,Op.intArith]
theorem f6i (hx:η x= .int k a) (hy:η y= .int k b) (h0:b≠0) (h:k.wrap (a.tdiv b)=c):YV P η w ⟨d,.binOp .quo t x y t',ty,ps,af,g⟩ (.int k c):=by
 subst h;simp [YV,execOp,hx,hy,eqGuard,binOp,Op.intDiv,h0]
theorem f7g (hx:η x= .int k a) (hy:η y= .int k b) (h0:b≠0) (h:a.tmod b=c):YV P η w ⟨d,.binOp .rem t x y t',ty,ps,af,g⟩ (.int k c):=by
 subst h;simp [YV,execOp,hx,hy,eqGuard,binOp,Op.intDiv,h0]
theorem f0f (hx:η x= .int k a) (hy:η y= .int k b) (h:decide (a<b)=q):YV P η w ⟨d,.binOp .lss t x y t',ty,ps,af,g⟩ (.bool q):=by
 subst h;simp [YV,execOp,hx,hy,eqGuard,binOp,Op.intCmp]
theorem f6k (hx:η x= .int k a) (hy:η y= .int k b) (h:decide (a <= b)=q):YV P η w ⟨d,.binOp .leq t x y t',ty,ps,af,g⟩ (.bool q):=by
 subst h;simp [YV,execOp,hx,hy,eqGuard,binOp,Op.intCmp]
theorem f6s (hx:η x= .int k a) (hy:η y= .int k b) (h:decide (b<a)=q):YV P η w ⟨d,.binOp .gtr t x y t',ty,ps,af,g⟩ (.bool q):=by
 subst h;simp [YV,execOp,hx,hy,eqGuard,binOp,Op.intCmp]
theorem e9e (hx:η x= .int k a) (hy:η y= .int k b) (h:decide (b <= a)=q):YV P η w ⟨d,.binOp .geq t x y t',ty,ps,af,g⟩ (.bool q):=by
 subst h;simp [YV,execOp,hx,hy,eqGuard,binOp,Op.intCmp]
theorem f8m (hx:η x= .int k a) (hy:η y= .int k b) (h:(a==b)=q):YV P η w ⟨d,.binOp .eql t x y t',ty,ps,af,g⟩ (.bool q):=by
 subst h;simp [YV,execOp,hx,hy,eqGuard,binOp,Op.intCmp]
theorem f7p (hx:η x= .int k a) (hy:η y= .int k b) (h:(a != b)=q):YV P η w ⟨d,.binOp .neq t x y t',ty,ps,af,g⟩ (.bool q):=by
 subst h;simp [YV,execOp,hx,hy,eqGuard,binOp,Op.intCmp]
theorem e2e {p:Bool} (hx:η x= .bool p) (h:(!p)=q):YV P η w ⟨d,.unOp .not t x,ty,ps,af,g⟩ (.bool q):=by
 subst h;simp [YV,execOp,hx,Op.unary]
theorem f74 (hx:η x= .int k a) (h:k.wrap (-a)=c):YV P η w ⟨d,.unOp .neg t x,ty,ps,af,g⟩ (.int k c):=by
 subst h;simp [YV,execOp,hx,Op.unary,Op.intArith]
end
theorem e7e {s t:TypeId} (hx:η x=v) (h:(convert s t v).run P w= .ok u w):YV P η w ⟨d,.convert s t x,ty,ps,af,g⟩ u:=by
 simp [YV,execOp,hx,h]
theorem b6x {s:TypeId} {f:Nat} (hx:η x=v) (h:(Instr.fieldAt s v f).run P w= .ok u w):YV P η w ⟨d,.fieldAddr s x f,ty,ps,af,g⟩ u:=by
 simp [YV,execOp,hx,h]
theorem d9c {s:TypeId} {f:Nat} (hx:η x=v) (h:(Instr.field s v f).run P w= .ok u w):YV P η w ⟨d,.field s x f,ty,ps,af,g⟩ u:=by
 simp [YV,execOp,hx,h]
theorem a7h {s:TypeId} {vi:Value} (hx:η x=v) (hy:η y=vi) (h:(Instr.indexAt s v vi).run P w= .ok u w):YV P η w ⟨d,.indexAddr s x y,ty,ps,af,g⟩ u:=by
 simp [YV,execOp,hx,hy,h]
theorem c5g {s:TypeId} (hx:η x=v) (h:(Instr.loadAt s v).run P w= .ok u w):YV P η w ⟨d,.load s x,ty,ps,af,g⟩ u:=by
 simp [YV,execOp,hx,h]
theorem d92 {i:Nat} (hx:η x=v) (h:(Instr.extract v i).run P w= .ok u w):YV P η w ⟨d,.extract x i,ty,ps,af,g⟩ u:=by
 simp [YV,execOp,hx,h]
theorem d85 {t:TypeId} {parts:Array (Nat×Operand)} {vs:Array (Nat×Value)} (hp:(parts.map fun (i,x)=>(i,η x))=vs) (h:(Instr.build t vs).run P w= .ok u w):YV P η w ⟨d,.build t parts,ty,ps,af,g⟩ u:=by
 subst hp
 simp only [YV,execOp,Sem.run_bind,h,Result.andThen_ok,Sem.run_pure]
theorem e59 {t:TypeId} (hx:η x=v) (h:(Builtin.len_ #[t] ty #[v]).run P w= .ok u w):YV P η w ⟨d,.call ⟨.builtin .len,#[x],#[t]⟩,ty,ps,af,g⟩ u:=by
 simp [YV,execOp,resolve,invoke,builtin,hx,h]
end
end Go.PL
namespace Go.PL
open Go
def CA (w:World) (a:Addr) (cs:List Value):Prop:= ∀j v,cs[j]? =some v -> w.cell? (a.add j)=some v
theorem CA.sub {w:World} {a:Addr} {cs:List Value} (h:CA w a cs) (k m:Nat):CA w (a.add k) ((cs.drop k).take m):=by
 intro j v hj
 rw [Deep.add_add]
 refine h (k+j) v ?_
 rw [List.getElem?_take] at hj
 split at hj
 ·rw [List.getElem?_drop] at hj;exact hj
 ·cases hj
theorem CA.one {w:World} {a:Addr} {v:Value} (h:CA w a [v]):w.cell? a=some v:=h 0 v rfl
theorem a1d (a:Addr) (k:Nat):(a.add k).block=a.block:=by unfold Addr.add;split<;>rfl
theorem CA.of_block {w w':World} {a:Addr} {cs:List Value} (h:CA w a cs) (hb:w'.heap[a.block]? =w.heap[a.block]?):CA w' a cs:=by
 intro j v hj
 rw [World.cell?_of_block (w:=w) (by rw [a1d];exact hb)]
 exact h j v hj
theorem d7u {P:Program} {w:World} {t:TypeId} {a:Addr} {v:Value} (ht:(Instr.loadAt t (.pointer (some a))).run P w=(load a).run P w) (h:CA w a [v]):
  (Instr.loadAt t (.pointer (some a))).run P w= .ok v w:=by
 rw [ht];simp [h.one]
theorem b0y {P:Program} {w:World} {a:Addr}: ∀(n i:Nat) (acc:Array Value) (cs:List Value),cs.length=n -> (∀j v,cs[j]? =some v -> w.cell? (a.add (i+j))=some v) ->
  (loadCellsFrom a i n acc).run P w= .ok (acc++cs.toArray) w
 | 0,i,acc,cs,hn,_=>by
   have:cs=[]:=List.length_eq_zero_iff.1 hn
   subst this
   simp [loadCellsFrom]
 | n+1,i,acc,[],hn,_=>by simp at hn
 | n+1,i,acc,c::cs,hn,h=>by
   have h0:=h 0 c rfl
   simp only [Nat.add_zero] at h0
   simp only [loadCellsFrom,Sem.run_bind,run_load,h0,Result.andThen_ok]
   rw [b0y n (i+1) _ cs (by simpa using hn) (fun j v hj=>by have:=h (j+1) v (by simpa using hj);rwa [show i+1+j=i+(j+1) by omega])]
   simp
theorem c8z {P:Program} {w:World} {t:TypeId} {a:Addr} {n:Nat} {cs:List Value} (ht:(Instr.loadAt t (.pointer (some a))).run P w=((do pure (.agg (<- loadCells a n))):Sem Value).run P w)
  (hn:cs.length=n) (h:CA w a cs):(Instr.loadAt t (.pointer (some a))).run P w= .ok (.agg cs.toArray) w:=by
 rw [ht]
 simp [loadCells,b0y n 0 #[] cs hn (fun j v hj=>by rw [Nat.zero_add];exact h j v hj)]
def Mb (w:World) (b:Nat) (T:TypeId) (cs:List Value):Prop:=w.heap[b]? =some (.cells cs.toArray T (0,0))
theorem Mb.lt {w:World} {b:Nat} {T:TypeId} {cs:List Value} (h:Mb w b T cs):b<w.heap.size:=(qN.1 h).1
theorem Mb.ca {w:World} {b:Nat} {T:TypeId} {cs:List Value} (h:Mb w b T cs):CA w ⟨b,0,none⟩ cs:=by
 intro j v hj
 have ha:(⟨b,0,none⟩:Addr).add j=⟨b,j,none⟩:=by unfold Addr.add;split<;>simp_all
 rw [ha]
 unfold World.cell?
 rw [show w.heap[b]? =some (.cells cs.toArray T (0,0)) from h]
 simpa using hj
theorem Mb.frozen {w:World} {b:Nat} {T:TypeId} {cs:List Value} (h:Mb w b T cs) (j:Nat):w.frozen? ⟨b,j,none⟩=false:=by
 unfold World.frozen?
 rw [show w.heap[b]? =some (.cells cs.toArray T (0,0)) from h]
 simp
theorem Mb.alloc (w:World) (T:TypeId) (cs:List Value):Mb (w.alloc (.cells cs.toArray T)) w.heap.size T cs:=by
 show (w.heap.push _)[w.heap.size]? =_
 simp
theorem b18 {P:Program} {b:Nat} {T:TypeId}: ∀(vs:List Value) (k:Nat) (cs:List Value) (w:World),Mb w b T cs -> k+vs.length <= cs.length -> (∀v∈vs,v.oneCell'=true) ->
  ∃w',(storeCells ⟨b,0,none⟩ vs k).run P w= .ok () w' /\ Mb w' b T (cs.take k++vs++cs.drop (k+vs.length)) /\ Ext (fun x=>x=b) w w'
 | [],k,cs,w,h,_,_=>⟨w,by simp [storeCells],by simpa using h,Ext.refl _ _⟩
 | v::vs,k,cs,w,h,hk,h1=>by
   have hklt:k<cs.length:=by simp at hk;omega
   have ha:(⟨b,0,none⟩:Addr).add k=⟨b,k,none⟩:=by unfold Addr.add;split<;>simp_all
   have hc:w.cell? ⟨b,k,none⟩=some cs[k]:=by rw [<- ha];exact h.ca k _ (qG hklt)
   have hv:v.oneCell'=true:=h1 v (by simp)
   have hst:(store ⟨b,k,none⟩ v).run P w= .ok () (w.setCell ⟨b,k,none⟩ v):=by
    rw [run_store P w _ v .plain hv]
    simp [hc,h.frozen k]
   have hM:Mb (w.setCell ⟨b,k,none⟩ v) b T (cs.set k v):=by
    show (w.heap.modify b _)[b]? =_
    rw [Array.getElem?_modify,if_pos rfl,show w.heap[b]? =some (.cells cs.toArray T (0,0)) from h]
    simp
   have hE:Ext (fun x=>x=b) w (w.setCell ⟨b,k,none⟩ v):=⟨rfl,rfl,rfl,by simp [World.setCell],fun i _ hne=>RowKit.Below.heap_setCell w _ v i hne⟩
   obtain ⟨w',hr,hM',hE'⟩:=b18 vs (k+1) (cs.set k v) (w.setCell ⟨b,k,none⟩ v) hM (by simp at hk ⊢; omega) (fun u hu=>h1 u (by simp [hu]))
   refine ⟨w',?_,?_,hE.trans hE'⟩
   ·simp only [storeCells,Sem.run_bind,ha,hst,Result.andThen_ok]
    exact hr
   ·have e:(cs.set k v).take (k+1)++vs++(cs.set k v).drop (k+1+vs.length)=cs.take k++v::vs++cs.drop (k+(v::vs).length):=by
     rw [List.take_set,List.drop_set,if_pos (by omega)]
     have h2:(cs.take (k+1)).set k v=cs.take k++[v]:=by
      rw [List.take_succ_eq_append_getElem hklt,List.set_append]
      simp [Nat.min_eq_left (Nat.le_of_lt hklt)]
     rw [h2]
     simp [Nat.add_comm,Nat.add_left_comm]
    rw [e] at hM'
    exact hM'
structure TyR (α:Type) where
 n:Nat
 rep:(Nat -> Prop) -> World -> List Value -> α -> Prop
 len: ∀{G w cs x},rep G w cs x -> cs.length=n
 ext: ∀{G w w' cs x},rep G w cs x -> Ext G w w' -> rep G w' cs x
 weaken: ∀{G G' w cs x},rep G w cs x -> (∀b,b<w.heap.size -> G' b -> G b) -> rep G' w cs x
def TyR.flat {α:Type} (n:Nat) (cells:α -> List Value) (h: ∀x,(cells x).length=n):TyR α where
 n:=n
 rep:=fun _ _ cs x=>cs=cells x
 len:=fun hr=>hr▸h _
 ext:=fun hr _=>hr
 weaken:=fun hr _=>hr
def j5 {α:Type} (R:TyR α) (G:Nat -> Prop) (w:World) (v:Value) (l:List α):Prop:=
 (v= .slice none 0 0 /\ l=[]) \/
 ∃a cap,v= .slice (some a) l.length cap /\ l.length <= cap /\ cap <= maxLen /\ (∀i x,l[i]? =some x -> ∃cs,R.rep G w cs x /\ a.block<w.heap.size /\ ¬G a.block /\ CA w (a.add (i*R.n)) cs)
section
variable {α:Type} {R:TyR α} {G:Nat -> Prop} {w w':World} {v:Value} {l:List α}
theorem j5.ext (h:j5 R G w v l) (hE:Ext G w w'):j5 R G w' v l:=by
 rcases h with h | ⟨a,cap,hv,hc,hm,hi⟩
 ·exact .inl h
 ·refine .inr ⟨a,cap,hv,hc,hm,fun i x hx=> ?_⟩
  obtain ⟨cs,hr,hb,hg,hca⟩:=hi i x hx
  refine ⟨cs,R.ext hr hE,Nat.lt_of_lt_of_le hb hE.size,hg,hca.of_block ?_⟩
  rw [a1d]
  exact hE.block _ hb hg
theorem j5.weaken {G':Nat -> Prop} (h:j5 R G w v l) (hG: ∀b,b<w.heap.size -> G' b -> G b):j5 R G' w v l:=by
 rcases h with h | ⟨a,cap,hv,hc,hm,hi⟩
 ·exact .inl h
 ·refine .inr ⟨a,cap,hv,hc,hm,fun i x hx=> ?_⟩
  obtain ⟨cs,hr,hb,hg,hca⟩:=hi i x hx
  exact ⟨cs,R.weaken hr hG,hb,fun h=>hg (hG _ hb h),hca⟩
theorem j5.nil (R:TyR α) (G:Nat -> Prop) (w:World):j5 R G w (.slice none 0 0) []:= .inl ⟨rfl,rfl⟩
theorem j5.shape (h:j5 R G w v l): ∃a cap,v= .slice a l.length cap /\ l.length <= cap /\ cap <= maxLen:=by
 rcases h with ⟨h,rfl⟩ | ⟨a,cap,hv,hc,hm,_⟩
 ·exact ⟨none,0,h,Nat.le_refl _,Nat.zero_le _⟩
 ·exact ⟨some a,cap,hv,hc,hm⟩
def c8 (l:List α) (i:Int):Option α:=if 0 <= i then l[i.toNat]? else none
theorem b33 {i:Int} {x:α} (h:c8 l i=some x):0 <= i /\ i<(l.length:Int) /\ l[i.toNat]? =some x:=by
 unfold c8 at h
 split at h
 ·have h1:i.toNat<l.length:=(qD.1 h).1
  exact ⟨by assumption,by omega,h⟩
 ·cases h
theorem j5.get (h:j5 R G w v l) {i:Int} {x:α} (hx:c8 l i=some x):
  ∃a cap cs,v= .slice (some a) l.length cap /\ (0 <= i /\ i<(l.length:Int)) /\ R.rep G w cs x /\ a.block<w.heap.size /\ ¬G a.block /\ CA w (a.add (i.toNat*R.n)) cs:=by
 obtain ⟨h0,h1,h2⟩:=b33 hx
 rcases h with ⟨_,rfl⟩ | ⟨a,cap,hv,hc,hm,hi⟩
 ·simp at h2
 ·obtain ⟨cs,hr,hb,hg,hca⟩:=hi _ _ h2
  exact ⟨a,cap,cs,hv,⟨h0,h1⟩,hr,hb,hg,hca⟩
end
structure At (w:World) (a:Addr) (cs:List Value):Prop where
 lt:a.block<w.heap.size
 ca:CA w a cs
theorem j5.getF {α:Type} {n:Nat} {cells:α -> List Value} {hn: ∀x,(cells x).length=n} {G:Nat -> Prop} {w:World} {v:Value} {l:List α} (h:j5 (TyR.flat n cells hn) G w v l) {i:Int} {x:α} (hx:c8 l i=some x):
  ∃a cap,v= .slice (some a) l.length cap /\ (0 <= i /\ i<(l.length:Int)) /\ At w (a.add (i.toNat*n)) (cells x):=by
 obtain ⟨a,cap,cs,hv,hi,hr,hb,_,hca⟩:=h.get hx
 have hr:cs=cells x:=hr
 subst hr
 exact ⟨a,cap,hv,hi,by rw [a1d];exact hb,hca⟩
theorem f2d {α β:Type} {o:Option α} {f:α -> Option β} {r:β} (h:o.bind f=some r): ∃x,o=some x /\ f x=some r:=by
 cases o with
 | none=>cases h
 | some x=>exact ⟨x,rfl,h⟩
def d5 {σ ρ:Type}:Nat -> ((σ -> Option ρ) -> σ -> Option ρ) -> σ -> Option ρ
 | 0,_,_=>none
 | k+1,f,s=>f (d5 k f) s
def FU:Nat:=2^70
def c0i (a b:Int):Option Int:=if b=0 then none else some (i64 (a.tdiv b))
def b7d (a b:Int):Option Int:=if b=0 then none else some (a.tmod b)
section
variable {P:Program} {w:World} {G:Nat -> Prop} {ρ:Nat -> Value} {F:List Fact} {p:Plan} {i:Nat}
theorem f6o {η:Operand -> Value} {d:Option Tmp} {ty:TypeId} {ps:String} {af:Array Edge} {g:Option (Nat×Bool)} {T:TypeId} {x:Operand} {v u:Value} {w':World} (hx:η x=v) (h:(Instr.box T v).run P w= .ok u w'):
  (execOp η ⟨d,.box T x,ty,ps,af,g⟩).run P w= .ok (.value u) w':=by simp [execOp,hx,h]
end
section
variable {P:Program} {η:Operand -> Value} {w:World} {d:Option Tmp} {ty:TypeId} {ps:String} {af:Array Edge} {g:Option (Nat×Bool)} {x y z:Operand} {v u:Value}
theorem f5d {k:IntKind} {a b:Int} {ts:Array TypeId} (hx:η x= .int k a) (hy:η y= .int k b):YV P η w ⟨d,.call ⟨.builtin .max,#[x,y],ts⟩,ty,ps,af,g⟩ (.int k (max a b)):=by
 have:(if b>a then b else a)=max a b:=by omega
 simp [YV,execOp,resolve,invoke,builtin,hx,hy,Builtin.max_,Builtin.max2,this]
theorem f1y {k:IntKind} {a b:Int} {ts:Array TypeId} (hx:η x= .int k a) (hy:η y= .int k b):YV P η w ⟨d,.call ⟨.builtin .min,#[x,y],ts⟩,ty,ps,af,g⟩ (.int k (min a b)):=by
 have:(if b<a then b else a)=min a b:=by omega
 simp [YV,execOp,resolve,invoke,builtin,hx,hy,Builtin.min_,Builtin.min2,this]
theorem b85 {t e:TypeId} {m:Nat} {a:Addr} {n c:Nat} {i:Int} (ht:P.underlying t=some (.slice e)) (he:(P.info? e).map (·.size)=some m) (h:0 <= i /\ i<(n:Int)):
  (Instr.indexAt t (.slice (some a) n c) (.int .i64 i)).run P w= .ok (.pointer (some (a.add (i.toNat*m)))) w:=by
 cases hi:P.info? e with
 | none=>simp [hi] at he
 | some q=>
   simp only [hi,Option.map_some,Option.some.injEq] at he
   simp [Instr.indexAt,run_underlying ht,asIntOf,h,sizeOf,typeInfo,hi,he]
theorem c68 {t e:TypeId} {m n:Nat} {a:Addr} {i:Int} (ht:P.underlying t=some (.array n e)) (he:(P.info? e).map (·.size)=some m) (h:0 <= i /\ i<(n:Int)):
  (Instr.indexAt t (.pointer (some a)) (.int .i64 i)).run P w= .ok (.pointer (some (a.add (i.toNat*m)))) w:=by
 cases hi:P.info? e with
 | none=>simp [hi] at he
 | some q=>
   simp only [hi,Option.map_some,Option.some.injEq] at he
   simp [Instr.indexAt,Instr.sureAddr,run_underlying ht,asIntOf,h,sizeOf,typeInfo,hi,he]
theorem CA.elem {α:Type} {cells:α -> List Value} (n:Nat) (hn: ∀x,(cells x).length=n): ∀{l:List α} {w:World} {a:Addr} {i:Int} {x:α},CA w a (l.flatMap cells) -> c8 l i=some x -> CA w (a.add (i.toNat*n)) (cells x):=by
 intro l w a i x h hx
 obtain ⟨_,_,h2⟩:=b33 hx
 generalize i.toNat=k at*
 clear hx
 have key: ∀(l:List α) (k:Nat),l[k]? =some x -> ((l.flatMap cells).drop (k*n)).take n=cells x:=by
  intro l
  induction l with
  | nil=>intro k h;simp at h
  | cons y r ih=>
    intro k h
    cases k with
    | zero=>
      simp at h;subst h
      simp [<- hn y]
    | succ k=>
      have h1:r[k]? =some x:=by simpa using h
      rw [List.flatMap_cons,Nat.succ_mul,Nat.add_comm,<- List.drop_drop]
      rw [<- hn y,List.drop_left]
      have:=ih k h1
      rw [<- hn y] at this
      exact this
 have h3:=h.sub (k*n) n
 rw [key l k h2] at h3
 exact h3
end
theorem c35 {α:Type} {cells:α -> List Value} {l:List α} (h: ∀x,∀u∈cells x,u.oneCell'=true): ∀u∈l.flatMap cells,u.oneCell'=true:=by
 intro u hu
 obtain ⟨x,_,hx⟩:=List.mem_flatMap.1 hu
 exact h x u hx
theorem a07 {α:Type} {cells:α -> List Value} {n:Nat} (hn: ∀x,(cells x).length=n): ∀l:List α,(l.flatMap cells).length=l.length*n
 | []=>by simp
 | x::r=>by rw [List.flatMap_cons,qL,hn,a07 hn r,List.length_cons,Nat.succ_mul];omega
end Go.PL
namespace Go.PL
open Go
def Own {α:Type} (B:Nat) (E:TypeId) (n:Nat) (cells:α -> List Value) (w:World) (v:Value) (l:List α):Prop:=
 (v= .slice none 0 0 /\ l=[]) \/
 ∃g off cap cur,v= .slice (some ⟨g,off,none⟩) l.length cap /\ B <= g /\ w.heap[g]? =some (.cells cur E (0,0)) /\ l.length <= cap /\ cap <= maxLen /\ off+cap*n <= cur.size /\ (cur.toList.drop off).take (l.length*n)=l.flatMap cells
section
variable {α:Type} {B:Nat} {E:TypeId} {n:Nat} {cells:α -> List Value} {w w':World} {v:Value} {l:List α}
theorem Own.nil (B:Nat) (E:TypeId) (n:Nat) (cells:α -> List Value) (w:World):Own B E n cells w (.slice none 0 0) ([]:List α):= .inl ⟨rfl,rfl⟩
theorem Own.lt (h:Own B E n cells w v l) {b:Nat} (hb:v.ownBlock=some b):B <= b /\ b<w.heap.size:=by
 rcases h with ⟨hv,_⟩ | ⟨g,off,cap,cur,hv,hg,hh,_⟩
 ·rw [hv] at hb;cases hb
 ·rw [hv] at hb
  obtain rfl:=qH hb
  exact ⟨hg,(qN.1 hh).1⟩
theorem Own.ext {G:Nat -> Prop} (h:Own B E n cells w v l) (hE:Ext G w w') (hG: ∀b,v.ownBlock=some b -> ¬G b):Own B E n cells w' v l:=by
 rcases h with h2 | ⟨g,off,cap,cur,hv,hg,hh,r⟩
 ·exact .inl h2
 ·exact .inr ⟨g,off,cap,cur,hv,hg,(hE.block g (qN.1 hh).1 (hG g (by rw [hv];rfl))).trans hh,r⟩
theorem Own.exn (h:Own B E n cells w v l) (hE:Ext noG w w'):Own B E n cells w' v l:=h.ext hE (fun _ _ h=>h)
theorem Own.base {B':Nat} (h:Own B E n cells w v l) (hB:B' <= B):Own B' E n cells w v l:=by
 rcases h with h2 | ⟨g,off,cap,cur,hv,hg,r⟩
 ·exact .inl h2
 ·exact .inr ⟨g,off,cap,cur,hv,Nat.le_trans hB hg,r⟩
theorem Own.shape (h:Own B E n cells w v l): ∃a cap,v= .slice a l.length cap /\ l.length <= cap /\ cap <= maxLen:=by
 rcases h with ⟨hv,hn⟩ | ⟨g,off,cap,cur,hv,_,_,hc,hm,_⟩
 ·exact ⟨none,0,by rw [hv,hn];rfl,by rw [hn];exact Nat.le_refl _,Nat.zero_le _⟩
 ·exact ⟨some ⟨g,off,none⟩,cap,hv,hc,hm⟩
theorem Own.ca (h:Own B E n cells w v l) {a:Addr} {m c:Nat} (hv:v= .slice (some a) m c):CA w a (l.flatMap cells):=by
 rcases h with ⟨h1,_⟩ | ⟨g,off,cap,cur,h1,_,hh,_,_,hs,ht⟩
 ·rw [h1] at hv;cases hv
 ·rw [h1] at hv
  simp only [Value.slice.injEq,Option.some.injEq] at hv
  obtain ⟨rfl,rfl,rfl⟩:=hv
  intro j u hu
  rw [<- ht] at hu
  have hj:j<l.length*n:=by
   have:=(qD.1 hu).1
   rw [List.length_take] at this;omega
  rw [List.getElem?_take_of_lt hj,List.getElem?_drop,Array.getElem?_toList] at hu
  unfold World.cell?
  rw [Addr.add_lit]
  simp [hh,hu]
theorem Own.rep (h:Own B E n cells w v l) {hn: ∀x,(cells x).length=n} {G:Nat -> Prop} (hG: ∀b,v.ownBlock=some b -> ¬G b):j5 (TyR.flat n cells hn) G w v l:=by
 have hca:=fun a m c (hv:v= .slice (some a) m c)=>h.ca hv
 rcases h with ⟨hv,hl⟩ | ⟨g,off,cap,cur,hv,hg,hh,hc,hm,hs,ht⟩
 ·exact .inl ⟨hv,hl⟩
 ·refine .inr ⟨⟨g,off,none⟩,cap,hv,hc,hm,fun i x hx=>⟨cells x,rfl,(qN.1 hh).1,hG g (by rw [hv];rfl),?_⟩⟩
  have h1:=CA.elem n hn (hca _ _ _ hv) (i:=(i:Int)) (x:=x) (by unfold c8;rw [if_pos (Int.natCast_nonneg i)];simpa using hx)
  rw [Int.toNat_natCast] at h1;exact h1
theorem Own.ofRow {m:Nat} (h:w.ownsRow B E n v m (l.flatMap cells)) (hm:m=l.length):Own B E n cells w v l:=by
 subst hm
 rcases h.2 with ⟨hv,hl⟩ | ⟨g,cap,cur,hv,hg,hh,hc,hm,hs,ht⟩
 ·exact .inl ⟨hv,List.length_eq_zero_iff.1 hl⟩
 ·exact .inr ⟨g,0,cap,cur,hv,hg,hh,hc,hm,by rw [hs];omega,by simpa using ht⟩
end
def a4t {α:Type} (bytes:Nat) (l x:List α):Option (List α):=if (l.length+x.length)*bytes <= 140737488355328 then some (l++x) else none
theorem e0w {α:Type} {bytes:Nat} {l x r:List α} (h:a4t bytes l x=some r):(l.length+x.length)*bytes <= 140737488355328 /\ l++x=r:=by
 unfold a4t at h
 split at h
 ·exact ⟨by assumption,qH h⟩
 ·cases h
section
variable {P:Program} {w:World}
theorem c5o {α:Type} {B:Nat} {t ty E:TypeId} {n bytes:Nat} {cells:α -> List Value} {v x:Value} {l xs:List α} (hn: ∀x,(cells x).length=n) (h1: ∀x,∀u∈cells x,u.oneCell'=true)
  (ht:P.underlying t=some (.slice E)) (hi:(P.info? E).map (fun i=>(i.zero.map (·.cells.size),i.size,i.bytes))=some (some n,n,bytes)) (hpos:0<n) (hbpos:0<bytes)
  (hown:Own B E n cells w v l) (hx: ∃G,j5 (TyR.flat n cells hn) G w x xs) (hb:(l.length+xs.length)*bytes <= 140737488355328) (hB:B <= w.heap.size):
  ∃v' w',(Builtin.append_ #[t,t] ty #[v,x]).run P w= .ok v' w' /\ Own B E n cells w' v' (l++xs) /\ Ext (fun b=>v.ownBlock=some b) w w' /\ (∀b,v'.ownBlock=some b -> v.ownBlock=some b \/ w.heap.size <= b):=by
 cases hinfo:P.info? E with
 | none=>simp [hinfo] at hi
 | some i=>
   simp only [hinfo,Option.map_some,Option.some.injEq,Prod.mk.injEq] at hi
   obtain ⟨hz,hsize,hby⟩:=hi
   obtain ⟨z,hz1,hz2⟩:=Option.map_eq_some_iff.1 hz
   have hlen:l.length+xs.length <= maxLen:=by
    have:(l.length+xs.length)*1 <= (l.length+xs.length)*bytes:=Nat.mul_le_mul_left _ hbpos
    simp only [maxLen];omega
   have fin: ∀(a:Addr) (m c:Nat) (news:List Value),x= .slice (some a) m c -> m=xs.length -> news=xs.flatMap cells -> (∀j u,news[j]? =some u -> w.cell? (a.add j)=some u) ->
     ∃v' w',(Builtin.append_ #[t,t] ty #[v,x]).run P w= .ok v' w' /\ Own B E n cells w' v' (l++xs) /\ Ext (fun b=>v.ownBlock=some b) w w' /\ (∀b,v'.ownBlock=some b -> v.ownBlock=some b \/ w.heap.size <= b):=by
    intro a m c news hxe hm hnews hc
    subst hxe
    have hnl:news.length=m*n:=by rw [hnews,hm,a07 hn]
    have hone: ∀u∈news,u.oneCell'=true:=by rw [hnews];exact c35 h1
    rcases hown with ⟨rfl,rfl⟩ | ⟨g,off,cap,cur,rfl,hBg,hgg,hlc,hcm,hsz,htk⟩
    ·obtain ⟨v',w',hr,ho,hg,_⟩:=run_append_own (P:=P) w w.heap.size t ty E i z n bytes ht hinfo hz1 hsize hby hz2 hpos _ 0 [] (World.ownsRow_nil w _ E n) a m c news hnl hc hone (by rw [hm];simpa using hlen) (by rw [hm];simpa using hb) (Nat.le_refl _)
     have hO:Own w.heap.size E n cells w' v' ([]++xs):=Own.ofRow (m:=0+m) (by rw [List.nil_append,<- hnews];exact ho) (by simp [hm])
     exact ⟨v',w',hr,hO.base hB,⟨hg.os,hg.tape,hg.output,hg.size,fun b hb hne=>hg.block b hb (fun e=>hne e.symm)⟩,fun b hvb=> .inr (hO.lt hvb).1⟩
    ·have hfl:(l.flatMap cells).length=l.length*n:=a07 hn l
     have hca:CA w ⟨g,off,none⟩ (l.flatMap cells):=Own.ca (B:=B) (E:=E) (n:=n) (.inr ⟨g,off,cap,cur,rfl,hBg,hgg,hlc,hcm,hsz,htk⟩) rfl
     by_cases hroom:l.length+m <= cap
     ·have hmn:(l.length+m)*n <= cap*n:=Nat.mul_le_mul_right _ hroom
      rw [Nat.add_mul] at hmn
      have hf:=run_firstCells_some (P:=P) w i.size m a m c news (by rw [hsize];exact hnl) hc
      have hst:=run_storeCells_at P g (off+l.length*n) E news 0 cur w hgg (by rw [hnl];omega) hone
      simp only [Nat.add_zero] at hst
      refine ⟨.slice (some ⟨g,off,none⟩) (l.length+m) cap,w.setRow g (cur.toList.take (off+l.length*n)++news++cur.toList.drop (off+l.length*n+news.length)).toArray,?_,?_,⟨rfl,rfl,rfl,by simp,fun k _ hk=>setRow_other w g k _ (fun e=>hk (by simp [Value.ownBlock,e]))⟩,fun b hvb=> .inl hvb⟩
      ·rw [hsize] at hf
       simp [Builtin.append_,run_underlying ht,sizeOf,typeInfo,hinfo,Builtin.lenOf,hroom,hf,Addr.add_lit,hsize,hst]
      ·refine .inr ⟨g,off,cap,_,by rw [qL,hm],hBg,setRow_heap w g cur _ E _ hgg,by rw [qL,<- hm];exact hroom,hcm,?_,?_⟩
       ·simp only [List.size_toArray,qL,List.length_take,List.length_drop,Array.length_toList]
        omega
       ·show (List.drop off (_++news++_)).take _=_
        have hc1:cur.toList.take (off+l.length*n)=cur.toList.take off++l.flatMap cells:=by rw [List.take_add,htk]
        have hlo:(cur.toList.take off).length=off:=by rw [List.length_take,Array.length_toList];omega
        rw [hc1,List.append_assoc,List.append_assoc]
        have:(cur.toList.take off++(l.flatMap cells++(news++cur.toList.drop (off+l.length*n+news.length)))).drop off=l.flatMap cells++(news++cur.toList.drop (off+l.length*n+news.length)):=by
         conv=>lhs;rw [<- hlo]
         simp [hlo]
        rw [this,<- List.append_assoc,List.flatMap_append,<- hnews]
        have hl2:(l++xs).length*n=(l.flatMap cells++news).length:=by rw [qL,qL,hfl,hnl,hm,Nat.add_mul]
        rw [hl2]
        exact List.take_left
     ·have hsm:l.length+m <= 9223372036854775807:=by
       have:l.length+m <= maxLen:=by rw [hm];exact hlen
       simp only [maxLen] at this;omega
      have hr:=run_append_grow (P:=P) w t ty E i z ht hinfo hz1 ⟨g,off,none⟩ l.length cap (l.flatMap cells) (by rw [hfl,hsize]) hca a m c news (by rw [hsize];exact hnl) hc (by omega) (by omega) (growslice_fits (by omega) (by rw [hm,hby];exact hb))
      have hge:=grownCap_ge w (l.length+m) cap E
      have hcm2:grownCap w (l.length+m) cap E <= maxLen:=grownCap_le_maxLen w (l.length+m) cap E (by rw [hm];exact hlen)
      refine ⟨_,_,hr,?_,⟨rfl,rfl,rfl,by simp,fun k hk _=>heap_alloc_old w.drew _ k hk⟩,fun b hvb=> ?_⟩
      ·refine .inr ⟨w.heap.size,0,_,_,by rw [qL,hm],hB,heap_alloc_new w.drew _,by rw [qL,<- hm];exact hge,hcm2,?_,?_⟩
       ·simp only [Array.size_append,List.size_toArray,size_zeroCells,hz2,hfl,hnl,<- Nat.add_mul,Nat.zero_add]
        exact Nat.mul_le_mul_right _ (by omega)
       ·simp only [Array.toList_append,List.append_assoc,List.drop_zero]
        rw [<- List.append_assoc,List.flatMap_append,<- hnews]
        have hl2:(l++xs).length*n=(l.flatMap cells++news).length:=by rw [qL,qL,hfl,hnl,hm,Nat.add_mul]
        rw [hl2]
        exact List.take_left
      ·right
       obtain rfl:=qH hvb
       exact Nat.le_refl _
   obtain ⟨G,hx⟩:=hx
   rcases hx with ⟨hxv,hxl⟩ | ⟨a,cap,hxv,_,_,hi⟩
   ·-- a nil source
    subst hxl
    subst hxv
    refine ⟨v,w,?_,by simpa using hown,Ext.refl _ _,fun b hb=> .inl hb⟩
    rcases hown with ⟨hv,hl⟩ | ⟨g,off,cap,cur,hv,_,hgg,hnc,_⟩
    ·rw [hv]
     simp [Builtin.append_,run_underlying ht,sizeOf,typeInfo,hinfo,Builtin.lenOf,Builtin.firstCells]
    ·rw [hv]
     simp [Builtin.append_,run_underlying ht,sizeOf,typeInfo,hinfo,Builtin.lenOf,Builtin.firstCells,hnc,storeCells]
   ·refine fin a xs.length cap (xs.flatMap cells) hxv rfl rfl ?_
    intro j u hu
    have hjl:j<xs.length*n:=by
     have:=(qD.1 hu).1
     rwa [a07 hn] at this
    have hk:j/n<xs.length:=(Nat.div_lt_iff_lt_mul hpos).2 hjl
    obtain ⟨cs,hcs,_,_,hca⟩:=hi (j/n) xs[j/n] (qG hk)
    have hcs:cs=cells xs[j/n]:=hcs
    subst hcs
    have hu':(cells xs[j/n])[j%n]? =some u:=by
     have key: ∀(xs:List α) (k r:Nat),r<n -> (hk:k<xs.length) -> (xs.flatMap cells)[k*n+r]? =(cells xs[k])[r]? :=by
      intro xs
      induction xs with
      | nil=>intro k r _ hk;simp at hk
      | cons y ys ih=>
        intro k r hr hk
        cases k with
        | zero=>
          simp only [Nat.zero_mul,Nat.zero_add,List.flatMap_cons,List.getElem_cons_zero]
          rw [List.getElem?_append_left (by rw [hn];exact hr)]
        | succ k=>
          rw [List.flatMap_cons,List.getElem?_append_right (by rw [hn,Nat.succ_mul];omega),hn,Nat.succ_mul]
          have:=ih k r hr (by simpa using hk)
          simp only [List.getElem_cons_succ]
          rw [<- this]
          congr 1
          omega
     have:=key xs (j/n) (j%n) (Nat.mod_lt _ hpos) hk
     rw [<- this,Nat.div_add_mod' j n]
     exact hu
    have h3:=hca (j%n) u hu'
    rw [Deep.add_add] at h3
    rwa [show (TyR.flat n cells hn).n=n from rfl,Nat.div_add_mod' j n] at h3
end
theorem Mb.own {α:Type} {B n:Nat} {cells:α -> List Value} {w:World} {b:Nat} {E:TypeId} {l:List α} {k:Nat} (h:Mb w b E (l.flatMap cells)) (hB:B <= b) (hk:l.length=k) (hm:k <= maxLen) (hn: ∀x,(cells x).length=n):
  Own B E n cells w (.slice (some ⟨b,0,none⟩) k k) l:=by
 subst hk
 refine .inr ⟨b,0,l.length,_,rfl,hB,h,Nat.le_refl _,hm,by simp [a07 hn],?_⟩
 have e:l.length*n=(l.flatMap cells).length:=(a07 hn l).symm
 rw [e,List.toList_toArray,List.drop_zero,List.take_length]
def a0j {α:Type} (l:List α) (lo hi:Int):Option (List α):=if 0 <= lo /\ lo <= hi /\ hi <= (l.length:Int) then some ((l.drop lo.toNat).take (hi.toNat-lo.toNat)) else none
theorem b0r {α:Type} {l r:List α} {lo hi:Int} (h:a0j l lo hi=some r):0 <= lo /\ lo <= hi /\ hi <= (l.length:Int) /\ r=(l.drop lo.toNat).take (hi.toNat-lo.toNat):=by
 unfold a0j at h
 split at h
 ·rename_i hc;exact ⟨hc.1,hc.2.1,hc.2.2,(qH h).symm⟩
 ·cases h
theorem j5.cut {α:Type} {R:TyR α} {G:Nat -> Prop} {w:World} {v:Value} {l r:List α} {lo hi:Int} (h:j5 R G w v l) (hs:a0j l lo hi=some r):
  ∃a cap,v= .slice a l.length cap /\ hi.toNat <= cap /\ j5 R G w (.slice (if cap=lo.toNat then a else a.map (·.add (lo.toNat*R.n))) (hi.toNat-lo.toNat) (cap-lo.toNat)) r:=by
 obtain ⟨h0,h1,h2,hr⟩:=b0r hs
 have hlen:r.length=hi.toNat-lo.toNat:=by
  rw [hr,List.length_take,List.length_drop];omega
 rcases h with ⟨hv,rfl⟩ | ⟨a,cap,hv,hc,hm,hi'⟩
 ·refine ⟨none,0,hv,by simp at h2;omega,.inl ⟨?_,by simpa using hr⟩⟩
  have e1:lo.toNat=0:=by simp at h2;omega
  have e2:hi.toNat=0:=by simp at h2;omega
  simp [e1,e2]
 ·refine ⟨some a,cap,hv,by omega,.inr ?_⟩
  by_cases hz:cap=lo.toNat
  ·refine ⟨a,cap-lo.toNat,by rw [if_pos hz,hlen],by omega,by omega,fun i x hx=> ?_⟩
   have:r=[]:=List.length_eq_zero_iff.1 (by omega)
   rw [this] at hx;simp at hx
  ·refine ⟨a.add (lo.toNat*R.n),cap-lo.toNat,by rw [if_neg hz,hlen];rfl,by omega,by omega,fun i x hx=> ?_⟩
   rw [hr,List.getElem?_take] at hx
   split at hx
   ·rw [List.getElem?_drop] at hx
    obtain ⟨cs,h3,h4,h5,h6⟩:=hi' _ _ hx
    refine ⟨cs,h3,by rw [a1d];exact h4,by rw [a1d];exact h5,?_⟩
    rw [Deep.add_add,<- Nat.add_mul];exact h6
   ·cases hx
section
variable {P:Program} {w:World} {α:Type} {R:TyR α} {G:Nat -> Prop} {v:Value} {l r:List α} {t e:TypeId}
theorem f0i {lo hi:Option Value} {i j:Int} (ht:P.underlying t=some (.slice e)) (he:(P.info? e).map (·.size)=some R.n) (h:j5 R G w v l) (hs:a0j l i j=some r)
  (hlo:(lo=none /\ i=0) \/ lo=some (.int .i64 i)) (hhi:(hi=none /\ j=(l.length:Int)) \/ hi=some (.int .i64 j)):
  ∃u,(Instr.sliceAt t v lo hi none).run P w= .ok u w /\ j5 R G w u r:=by
 obtain ⟨a,cap,hv,hcap,hrep⟩:=h.cut hs
 obtain ⟨h0,h1,h2,_⟩:=b0r hs
 refine ⟨_,?_,hrep⟩
 cases hinfo:P.info? e with
 | none=>simp [hinfo] at he
 | some q=>
   simp only [hinfo,Option.map_some,Option.some.injEq] at he
   subst hv
   have hj:(0 <= j /\ j <= (cap:Int)):=by omega
   have hij:(0 <= i /\ i <= (j.toNat:Int)):=by omega
   rcases hlo with ⟨rfl,rfl⟩ | rfl<;>rcases hhi with ⟨rfl,hl⟩ | rfl
   ·have e1:j.toNat=l.length:=by omega
    simp [Instr.sliceAt,Instr.slice,run_underlying ht,Instr.sliceBounds,sizeOf,typeInfo,hinfo,e1]
   ·simp [Instr.sliceAt,Instr.slice,run_underlying ht,Instr.sliceBounds,Instr.sliceBound,asIntOf,hj,sizeOf,typeInfo,hinfo]
   ·have e1:j.toNat=l.length:=by omega
    rw [e1] at hij
    simp [Instr.sliceAt,Instr.slice,run_underlying ht,Instr.sliceBounds,Instr.sliceBound,asIntOf,hij,sizeOf,typeInfo,hinfo,he,e1]
   ·simp [Instr.sliceAt,Instr.slice,run_underlying ht,Instr.sliceBounds,Instr.sliceBound,asIntOf,hj,hij,sizeOf,typeInfo,hinfo,he]
    omega
end
end Go.PL
namespace Go.PL
open Go
def e42 (k:IntKind) (a b:Int):Int:=k.wrap (BitVec.ofInt k.bits a &&& BitVec.ofInt k.bits b).toNat
def orK (k:IntKind) (a b:Int):Int:=k.wrap (BitVec.ofInt k.bits a ||| BitVec.ofInt k.bits b).toNat
def f7l (k:IntKind) (a b:Int):Int:=k.wrap (BitVec.ofInt k.bits a ^^^ BitVec.ofInt k.bits b).toNat
def f5z (k:IntKind) (a b:Int):Int:=k.wrap (a*2^(min b.toNat k.bits))
def f1l (k:IntKind) (a b:Int):Int:=a.fdiv (2^(min b.toNat k.bits))
def f1r (k:IntKind) (a b:Int):Option Int:=if b<0 then none else some (f5z k a b)
def d3f (k:IntKind) (a b:Int):Option Int:=if b<0 then none else some (f1l k a b)
theorem c8v {k:IntKind} {a b c:Int} (h:f1r k a b=some c): ¬b<0 /\ f5z k a b=c:=by
 unfold f1r at h;split at h
 ·cases h
 ·exact ⟨by assumption,qH h⟩
theorem c9e {k:IntKind} {a b c:Int} (h:d3f k a b=some c): ¬b<0 /\ f1l k a b=c:=by
 unfold d3f at h;split at h
 ·cases h
 ·exact ⟨by assumption,qH h⟩
def b47 (s:ByteArray) (i:Int):Option Int:=if 0 <= i then (s[i.toNat]?).map (fun b=>(b.toNat:Int)) else none
section
variable {P:Program} {η:Operand -> Value} {w:World} {d:Option Tmp} {ty:TypeId} {ps:String} {af:Array Edge} {g:Option (Nat×Bool)} {x y z:Operand} {v u:Value} {t t':TypeId} {k k2:IntKind} {a b c:Int} {q:Bool}
theorem f8n (hx:η x= .int k a) (hy:η y= .int k b) (h:e42 k a b=c):YV P η w ⟨d,.binOp .and t x y t',ty,ps,af,g⟩ (.int k c):=by
 subst h;simp [YV,execOp,hx,hy,eqGuard,binOp,Op.intBits,e42]
theorem o_or (hx:η x= .int k a) (hy:η y= .int k b) (h:orK k a b=c):YV P η w ⟨d,.binOp .or t x y t',ty,ps,af,g⟩ (.int k c):=by
 subst h;simp [YV,execOp,hx,hy,eqGuard,binOp,Op.intBits,orK]
theorem f8d (hx:η x= .int k a) (hy:η y= .int k b) (h:f7l k a b=c):YV P η w ⟨d,.binOp .xor t x y t',ty,ps,af,g⟩ (.int k c):=by
 subst h;simp [YV,execOp,hx,hy,eqGuard,binOp,Op.intBits,f7l]
theorem f6m (hx:η x= .int k a) (hy:η y= .int k2 b) (h0: ¬b<0) (h:f5z k a b=c):YV P η w ⟨d,.binOp .shl t x y t',ty,ps,af,g⟩ (.int k c):=by
 subst h;simp [YV,execOp,hx,hy,eqGuard,binOp,Op.shift,h0,f5z]
theorem f7q (hx:η x= .int k a) (hy:η y= .int k2 b) (h0: ¬b<0) (h:f1l k a b=c):YV P η w ⟨d,.binOp .shr t x y t',ty,ps,af,g⟩ (.int k c):=by
 subst h;simp [YV,execOp,hx,hy,eqGuard,binOp,Op.shift,h0,f1l]
theorem f0l {s:ByteArray} (hx:η x= .string s) (hy:η y= .int k2 b) (ht:P.underlying t=some .string) (h:b47 s b=some c):YV P η w ⟨d,.index t x y,ty,ps,af,g⟩ (.int .u8 c):=by
 unfold b47 at h
 split at h
 ·rename_i h0
  obtain ⟨r,hr,hrc⟩:=Option.map_eq_some_iff.1 h
  subst hrc
  simp [YV,execOp,hx,hy,Instr.index,asIntOf,run_underlying ht,h0,hr]
 ·cases h
theorem f7k {xs ys:Array Value} {r:Bool} (hx:η x= .agg xs) (hy:η y= .agg ys) (hm:P.eqGuardType P.depth t=false) (h:(Op.equalIn 10000 t (.agg xs) (.agg ys)).run P w= .ok r w) (hq:r=q):
  YV P η w ⟨d,.binOp .eql t x y t',ty,ps,af,g⟩ (.bool q):=by
 subst hq
 simp only [YV,execOp,hx,hy,Sem.run_bind,run_eqGuard_agg w .eql t x y xs ys hm,Result.andThen_ok,run_eql_struct w t xs ys,h,Sem.run_pure]
theorem f6p {xs ys:Array Value} {r:Bool} (hx:η x= .agg xs) (hy:η y= .agg ys) (hm:P.eqGuardType P.depth t=false) (h:(Op.equalIn 10000 t (.agg xs) (.agg ys)).run P w= .ok r w) (hq:(!r)=q):
  YV P η w ⟨d,.binOp .neq t x y t',ty,ps,af,g⟩ (.bool q):=by
 subst hq
 simp only [YV,execOp,hx,hy,Sem.run_bind,run_eqGuard_agg w .neq t x y xs ys hm,Result.andThen_ok,run_neq_struct w t xs ys,h,Sem.run_pure]
theorem f3b {p r:Bool} (hx:η x= .bool p) (hy:η y= .bool r) (ht:P.underlying t=some .bool) (h:(p==r)=q):YV P η w ⟨d,.binOp .eql t x y t',ty,ps,af,g⟩ (.bool q):=by
 subst h;simp [YV,execOp,hx,hy,eqGuard,binOp,run_equal_bool w t p r ht]
theorem f3x {p r:Bool} (hx:η x= .bool p) (hy:η y= .bool r) (ht:P.underlying t=some .bool) (h:(p != r)=q):YV P η w ⟨d,.binOp .neq t x y t',ty,ps,af,g⟩ (.bool q):=by
 subst h;simp [YV,execOp,hx,hy,eqGuard,binOp,run_equal_bool w t p r ht];cases p<;>cases r<;>rfl
theorem d62 {fn:Fn} {cap:Array Operand} {cs:Array Value} (h:cap.map η=cs):YV P η w ⟨d,.makeFunc fn #[] cap,ty,ps,af,g⟩ (.func fn #[] cs):=by
 subst h;simp [YV,execOp,Instr.makeFunc]
end
theorem e8w {P:Program} {w:World} {d:Nat} {xs ys:Array Value} {l:List Field} (hl:l.isEmpty=true):(Op.eqFields d xs ys l).run P w= .ok true w:=by
 rw [List.isEmpty_iff.1 hl];simp [Op.eqFields]
theorem e5l {P:Program} {w:World} {d off:Nat} {t:TypeId} {xs ys:Array Value} {l:List Field} {a b:Value} {r s:Bool}
  (hl:l.head?.map (fun f=>(f.name != "_",f.type,f.offset))=some (true,t,off)) (h1:(part t xs off).run P w= .ok a w) (h2:(part t ys off).run P w= .ok b w)
  (h3:(Op.equalIn d t a b).run P w= .ok r w) (h4:(Op.eqFields d xs ys l.tail).run P w= .ok s w):(Op.eqFields d xs ys l).run P w= .ok (r&&s) w:=by
 cases l with
 | nil=>simp at hl
 | cons f fs=>
   simp only [List.head?_cons,Option.map_some,Option.some.injEq,Prod.mk.injEq,bne_iff_ne,ne_eq] at hl
   obtain ⟨hn,rfl,rfl⟩:=hl
   simp only [List.tail_cons] at h4
   rw [Op.eqFields]
   simp only [Sem.run_ite,ne_eq,hn,not_false_eq_true,if_true,Sem.run_bind,h1,h2,h3,Result.andThen_ok]
   cases r
   ·simp
   ·simp [h4]
end Go.PL
namespace Go.PL
open Go
def b0i {α:Type} (l:List α) (i:Int) (x:α):List α:=if 0 <= i then l.set i.toNat x else l
theorem c1n {α:Type} (l:List α) (i:Int) (x:α):(b0i l i x).length=l.length:=by unfold b0i;split<;>simp
theorem c3n {α:Type} {cells:α -> List Value} {n:Nat} (hn: ∀x,(cells x).length=n) (x:α): ∀(l:List α) (k:Nat),k<l.length ->
  (l.flatMap cells).take (k*n)++cells x++(l.flatMap cells).drop (k*n+n)=(l.set k x).flatMap cells
 | [],k,h=>by simp at h
 | y::r,0,_=>by
   have h0:(cells y++r.flatMap cells).drop n=r.flatMap cells:=by rw [<- hn y,List.drop_left]
   simp [h0]
 | y::r,k+1,h=>by
   have ih:=c3n hn x r k (by simpa using h)
   have e1:(k+1)*n=(cells y).length+k*n:=by rw [hn,Nat.succ_mul,Nat.add_comm]
   rw [List.flatMap_cons,List.set_cons_succ,List.flatMap_cons,<- ih,e1,List.take_length_add_append,Nat.add_assoc,List.drop_length_add_append]
   simp
theorem d03 {α:Type} {cells:α -> List Value} {n:Nat} (hn: ∀x,(cells x).length=n) {l:List α} {i:Int} {x y:α} (h:c8 l i=some y) {vs:List Value} (hvs:vs=cells x):
  (l.flatMap cells).take (i.toNat*n)++vs++(l.flatMap cells).drop (i.toNat*n+vs.length)=(b0i l i x).flatMap cells:=by
 obtain ⟨h0,h1,_⟩:=b33 h
 subst hvs
 rw [hn,b0i,if_pos h0]
 exact c3n hn x l _ (by omega)
section
variable {P:Program} {w:World} {G:Nat -> Prop} {ρ:Nat -> Value} {F:List Fact} {p:Plan} {i:Nat}
theorem a9y {a:Addr}: ∀(vs:List Value) (k j:Nat),(storeCells (a.add k) vs j).run P w=(storeCells a vs (k+j)).run P w:=by
 intro vs
 induction vs generalizing w with
 | nil=>intro k j;simp [storeCells]
 | cons v r ih=>
   intro k j
   simp only [storeCells,Sem.run_bind,Deep.add_add]
   congr 1
   funext u w'
   rw [ih k (j+1),Nat.add_assoc]
theorem b6r {t:TypeId} {x y:Operand} {ty:TypeId} {ps:String} {af:Array Edge} {g:Option (Nat×Bool)} {dd b k:Nat} {T:TypeId} {a:Addr} {vs cs cs0:List Value} {v:Value}
  (hF:F[i]? =some (dd,fun _ w'=>Mb w' b T cs)) (hm:p.mu.contains i=true) (hG: ∀x,x=b -> G x)
  (hx:ev ρ x= .pointer (some a)) (ha:a=(⟨b,0,none⟩:Addr).add k) (hy:ev ρ y=v) (hM:Mb w b T cs0)
  (hst: ∀(a:Addr) (w:World),(Instr.storeAt t (.pointer (some a)) v).run P w=(storeCells a vs).run P w) (hk:k+vs.length <= cs0.length) (hcs:cs0.take k++vs++cs0.drop (k+vs.length)=cs) (h1: ∀u∈vs,u.oneCell'=true):
  y9 P ⟨none,.store t x y,ty,ps,af,g⟩ (ev ρ) w fun v w'=>Ext (if p.mu.contains i then G else noG) w w' /\ fact F i (a9j ρ none v) w':=by
 obtain ⟨w',hr,hM',hE⟩:=b18 (P:=P) vs k cs0 w hM hk h1
 have hrun:(execOp (ev ρ) ⟨none,.store t x y,ty,ps,af,g⟩).run P w= .ok .skip w':=by
  have h2:=a9y (P:=P) (w:=w) (a:=(⟨b,0,none⟩:Addr)) vs k 0
  simp only [Nat.add_zero] at h2
  simp [execOp,hx,hy,hst,ha,h2,hr]
 unfold y9
 rw [hrun,hm,if_pos rfl]
 refine ⟨hE.mono hG,?_⟩
 unfold fact
 rw [hF]
 show Mb w' b T cs
 rw [<- hcs];exact hM'
theorem Own.mb {α:Type} {B:Nat} {E:TypeId} {n:Nat} {cells:α -> List Value} {v:Value} {l:List α} (h:Own B E n cells w v l) {a:Addr} {m c:Nat} (hv:v= .slice (some a) m c):
  ∃b o cur,a=⟨b,o,none⟩ /\ v.ownBlock=some b /\ B <= b /\ Mb w b E cur /\ m=l.length /\ m <= c /\ c <= maxLen /\ o+c*n <= cur.length /\ (cur.drop o).take (l.length*n)=l.flatMap cells:=by
 rcases h with ⟨h1,_⟩ | ⟨g,off,cap,cur,h1,hg,hh,hc,hm,hs,ht⟩
 ·rw [h1] at hv;cases hv
 ·rw [h1] at hv
  simp only [Value.slice.injEq,Option.some.injEq] at hv
  obtain ⟨rfl,rfl,rfl⟩:=hv
  refine ⟨g,off,cur.toList,rfl,by rw [h1];rfl,hg,?_,rfl,hc,hm,by simpa using hs,ht⟩
  simpa [Mb] using hh
theorem c7p {α:Type} {B:Nat} {E:TypeId} {n off:Nat} {cells:α -> List Value} {t:TypeId} {x y:Operand} {ty:TypeId} {ps:String} {af:Array Edge} {g:Option (Nat×Bool)} {dd m c:Nat} {a a0:Addr} {vs:List Value} {v v0:Value} {l:List α} {j:Int} {y0 y1:α}
  (hF:F[i]? =some (dd,fun _ w'=>Own B E n cells w' v0 (b0i l j y1))) (hm:p.mu.contains i=true) (hG: ∀b,v0.ownBlock=some b -> G b)
  (hn: ∀x,(cells x).length=n) (hx:ev ρ x= .pointer (some a)) (hv:v0= .slice (some a0) m c) (ha:a=a0.add (j.toNat*n+off)) (hy:ev ρ y=v) (hO:Own B E n cells w v0 l) (hj:c8 l j=some y0)
  (hst: ∀(a:Addr) (w:World),(Instr.storeAt t (.pointer (some a)) v).run P w=(storeCells a vs).run P w) (hle:off+vs.length <= n) (hcs:(cells y0).take off++vs++(cells y0).drop (off+vs.length)=cells y1) (h1: ∀u∈vs,u.oneCell'=true):
  y9 P ⟨none,.store t x y,ty,ps,af,g⟩ (ev ρ) w fun v w'=>Ext (if p.mu.contains i then G else noG) w w' /\ fact F i (a9j ρ none v) w':=by
 obtain ⟨b,o,cur0,rfl,hob,hB,hM,hml,hmc,hcm,hlen0,htake⟩:=hO.mb hv
 obtain ⟨cur,hcur0⟩: ∃cur,cur=cur0.drop o:=⟨_,rfl⟩
 rw [<- hcur0] at htake
 have hlen:c*n <= cur.length:=by rw [hcur0,List.length_drop];omega
 obtain ⟨h0,hlt,hget⟩:=b33 hj
 have hjn:j.toNat*n+n <= l.length*n:=by
  rw [<- Nat.succ_mul];exact Nat.mul_le_mul_right n (by omega)
 have hln:l.length*n <= cur.length:=Nat.le_trans (Nat.mul_le_mul_right n (by omega)) hlen
 have hcl:cur.length=cur0.length-o:=by rw [hcur0,List.length_drop]
 have hopos:o+cur.length=cur0.length:=by
  have:l.length*n+o <= cur0.length:=by
   have:=Nat.mul_le_mul_right n (show l.length <= c by omega)
   omega
  omega
 obtain ⟨w',hr,hM',hE⟩:=b18 (P:=P) vs (o+(j.toNat*n+off)) cur0 w hM (by omega) h1
 have hrun:(execOp (ev ρ) ⟨none,.store t x y,ty,ps,af,g⟩).run P w= .ok .skip w':=by
  have h2:=a9y (P:=P) (w:=w) (a:=(⟨b,0,none⟩:Addr)) vs (o+(j.toNat*n+off)) 0
  simp only [Nat.add_zero] at h2
  have h3:(⟨b,o,none⟩:Addr).add (j.toNat*n+off)=(⟨b,0,none⟩:Addr).add (o+(j.toNat*n+off)):=by rw [Addr.add_lit,Addr.add_lit,Nat.zero_add]
  simp [execOp,hx,hy,hst,ha,h3,h2,hr]
 unfold y9
 rw [hrun,hm,if_pos rfl]
 refine ⟨hE.mono (fun c hc=>hG c (by rw [hc];exact hob)),?_⟩
 unfold fact
 rw [hF]
 show Own B E n cells w' v0 (b0i l j y1)
 have hcur:cur=l.flatMap cells++cur.drop (l.length*n):=by rw [<- htake,List.take_append_drop]
 have hfl:(l.flatMap cells).length=l.length*n:=a07 hn l
 have key:cur.take (j.toNat*n+off)++vs++cur.drop (j.toNat*n+off+vs.length)=(b0i l j y1).flatMap cells++cur.drop (l.length*n):=by
  have hset:=d03 hn hj (x:=y1) rfl
  rw [hn] at hset
  have hel:((l.flatMap cells).drop (j.toNat*n)).take n=cells y0:=by
   have hsplit: ∀(l:List α) (k:Nat),l[k]? =some y0 -> ((l.flatMap cells).drop (k*n)).take n=cells y0:=by
    intro l
    induction l with
    | nil=>intro k h;simp at h
    | cons z r ih=>
      intro k h
      cases k with
      | zero=>simp at h;subst h;simp [<- hn z]
      | succ k=>
        rw [List.flatMap_cons,Nat.succ_mul,Nat.add_comm,<- List.drop_drop,<- hn z,List.drop_left]
        have:=ih k (by simpa using h)
        rw [<- hn z] at this;exact this
   exact hsplit l _ hget
  have hmid:(l.flatMap cells).drop (j.toNat*n)=cells y0++(l.flatMap cells).drop (j.toNat*n+n):=by
   rw [<- hel,<- List.drop_drop,List.take_append_drop]
  have e1:cur.take (j.toNat*n+off)=(l.flatMap cells).take (j.toNat*n)++(cells y0).take off:=by
   conv=>lhs;rw [hcur]
   rw [List.take_append_of_le_length (by omega)]
   rw [List.take_add,hmid,List.take_append_of_le_length (by rw [hn];omega)]
  have e2:cur.drop (j.toNat*n+off+vs.length)=(cells y0).drop (off+vs.length)++((l.flatMap cells).drop (j.toNat*n+n)++cur.drop (l.length*n)):=by
   conv=>lhs;rw [hcur]
   rw [List.drop_append_of_le_length (by omega),Nat.add_assoc,<- List.drop_drop,hmid,List.drop_append_of_le_length (by rw [hn];omega),List.append_assoc]
  rw [e1,e2,<- hset,<- hcs]
  simp [List.append_assoc]
 have hdrop:(cur0.take (o+(j.toNat*n+off))++vs++cur0.drop (o+(j.toNat*n+off)+vs.length)).drop o=cur.take (j.toNat*n+off)++vs++cur.drop (j.toNat*n+off+vs.length):=by
  have hlo:(cur0.take o).length=o:=by rw [List.length_take];omega
  rw [List.take_add,<- hcur0,Nat.add_assoc,<- List.drop_drop,<- hcur0,List.append_assoc,List.append_assoc]
  conv=>lhs;arg 1;rw [<- hlo]
  rw [List.drop_left,List.append_assoc]
 have hsl:(b0i l j y1).length=l.length:=c1n l j y1
 refine .inr ⟨b,o,c,_,by rw [hv,hml,hsl],hB,hM',by omega,hcm,?_,?_⟩
 ·simp only [List.size_toArray,qL,List.length_take,List.length_drop]
  omega
 ·show (List.drop o (_:List Value)).take _=_
  rw [List.toList_toArray,hdrop,key,hsl,<- hsl,<- a07 hn,List.take_left]
end
end Go.PL
namespace Go.PL
open Go
def a65 (a b:ByteArray):Option ByteArray:=if (a.size+b.size:Nat) <= 9223372036854775807 then some (a++b) else none
section
variable {P:Program} {η:Operand -> Value} {w:World} {d:Option Tmp} {ty:TypeId} {ps:String} {af:Array Edge} {g:Option (Nat×Bool)} {x y:Operand} {t t':TypeId} {a b c:ByteArray} {q:Bool}
theorem f4q (hx:η x= .string a) (hy:η y= .string b) (h:(a.toList==b.toList)=q):YV P η w ⟨d,.binOp .eql t x y t',ty,ps,af,g⟩ (.bool q):=by
 subst h;simp [YV,execOp,hx,hy,eqGuard,binOp,Op.stringOp]
theorem f4o (hx:η x= .string a) (hy:η y= .string b) (h:(a.toList != b.toList)=q):YV P η w ⟨d,.binOp .neq t x y t',ty,ps,af,g⟩ (.bool q):=by
 subst h;simp [YV,execOp,hx,hy,eqGuard,binOp,Op.stringOp,bne]
theorem f2c (hx:η x= .string a) (hy:η y= .string b) (h:a65 a b=some c):YV P η w ⟨d,.binOp .add t x y t',ty,ps,af,g⟩ (.string c):=by
 unfold a65 at h
 split at h
 ·rename_i hs
  cases h
  have: ¬(((a.size+b.size:Nat):Int)>IntKind.i64.max):=by
   have e:IntKind.i64.max=9223372036854775807:=by decide
   rw [e];omega
  simp [YV,execOp,hx,hy,eqGuard,binOp,Op.stringOp]
  simp at this
  exact this
 ·cases h
end
section
variable {P:Program} {η:Operand -> Value} {w:World} {d:Option Tmp} {ty:TypeId} {ps:String} {af:Array Edge} {g:Option (Nat×Bool)} {x:Operand} {v:Value} {a:Addr} {i:Nat} {r:List (Nat×Operand)} {r':List (Nat×Value)}
theorem b91 (hx:η x= .pointer (some a)):YV P η w ⟨d,.nilCheck x,ty,ps,af,g⟩ (.pointer (some a)):=by
 simp [YV,execOp,hx]
end
end Go.PL
namespace Go.PL
open Go
def c4b (u v:Value) (n:Nat) (lo:Int) (len:Nat):Prop:= ∃(a:Option Addr) (L c:Nat) (a':Option Addr) (c':Nat),v= .slice a L c /\ 0 <= lo /\ lo.toNat+len=L /\ u= .slice a' len c' /\ (0<len -> ∃b,a=some b /\ a'=some (b.add (lo.toNat*n)))
theorem c4b.shape {u v:Value} {n:Nat} {lo:Int} {len:Nat} (h:c4b u v n lo len): ∃a c,u= .slice a len c:=by
 obtain ⟨_,_,_,a',c',_,_,_,h1,_⟩:=h
 exact ⟨a',c',h1⟩
def c0h {α:Type} (l:List α) (lo i:Int):Option α:=if 0 <= i then c8 l (lo+i) else none
theorem c4b.getF {α:Type} {B:Nat} {E:TypeId} {n:Nat} {cells:α -> List Value} {hn: ∀x,(cells x).length=n} {w:World} {u v:Value} {l:List α} {lo:Int} {len:Nat} (h:c4b u v n lo len) (hO:Own B E n cells w v l) {i:Int} {x:α} (hx:c0h l lo i=some x):
  ∃a cap,u= .slice (some a) len cap /\ (0 <= i /\ i<(len:Int)) /\ At w (a.add (i.toNat*n)) (cells x):=by
 unfold c0h at hx
 split at hx
 ·rename_i h0
  obtain ⟨a,L,c,a',c',hv,hlo,hL,hu,hp⟩:=h
  obtain ⟨h1,h2,h3⟩:=b33 hx
  obtain ⟨b,cap,hv2,hi2,hA⟩:=j5.getF (Own.rep (hn:=hn) (G:=noG) hO (fun _ _ h=>h)) hx
  rw [hv] at hv2
  simp only [Value.slice.injEq] at hv2
  obtain ⟨rfl,rfl,rfl⟩:=hv2
  have hlt:i<(len:Int):=by omega
  obtain ⟨b',hb,ha'⟩:=hp (by omega)
  cases hb
  refine ⟨b.add (lo.toNat*n),c',by rw [hu,ha'],⟨h0,hlt⟩,?_⟩
  rw [Deep.add_add,<- Nat.add_mul]
  have:(lo+i).toNat=lo.toNat+i.toNat:=by omega
  rwa [this] at hA
 ·cases hx
section
variable {P:Program} {w:World} {G:Nat -> Prop} {ρ:Nat -> Value} {F:List Fact} {p:Plan} {i:Nat} {α:Type} {B:Nat} {E:TypeId} {n:Nat} {cells:α -> List Value} {v:Value} {l r:List α} {t:TypeId} {x lo hi:Operand} {a b:Int}
 {ty:TypeId} {ps:String} {af:Array Edge} {g:Option (Nat×Bool)} {dd:Tmp} {Φ:Value -> World -> Prop}
theorem b9v (hn: ∀x,(cells x).length=n): ∀(l:List α) (k:Nat),(l.flatMap cells).drop (k*n)=(l.drop k).flatMap cells
 | [],k=>by simp
 | y::l,0=>by simp
 | y::l,k+1=>by
   rw [List.flatMap_cons,List.drop_succ_cons,Nat.succ_mul,Nat.add_comm,<- List.drop_drop,<- hn y,List.drop_left,hn y,b9v hn l k]
end
def b1p {α:Type} (z:α) (l:List α) (lo:Int):List α:=l.take lo.toNat++List.replicate (l.length-lo.toNat) z
theorem c9p {α:Type} {cells:α -> List Value} {z:α} {zs:Array Value} (hz:zs.toList=cells z) (hp:0<zs.size) (m:Nat):(Builtin.zeroCells zs m).toList=(List.replicate m z).flatMap cells:=by
 have hl:(cells z).length=zs.size:=by rw [<- hz];simp
 apply List.ext_getElem?
 intro k
 have key: ∀(m k:Nat),((List.replicate m z).flatMap cells)[k]? =if k<m*zs.size then some zs[k%zs.size]! else none:=by
  intro m
  induction m with
  | zero=>intro k;simp
  | succ m ih=>
    intro k
    rw [List.replicate_succ,List.flatMap_cons]
    by_cases hk:k<zs.size
    ·rw [List.getElem?_append_left (by omega),Nat.mod_eq_of_lt hk,if_pos (by rw [Nat.succ_mul];omega),<- hz]
     simp [hk]
    ·rw [List.getElem?_append_right (by omega),hl,ih]
     have e1:(k-zs.size)%zs.size=k%zs.size:=by rw [Nat.mod_eq_sub_mod (by omega:k >= zs.size)]
     rw [e1]
     congr 1
     rw [Nat.succ_mul,eq_iff_iff];omega
 rw [key]
 unfold Builtin.zeroCells
 simp
 split<;>simp_all
theorem d6x {P:Program} {w:World} {G:Nat -> Prop} {ρ:Nat -> Value} {F:List Fact} {p:Plan} {i:Nat} {α:Type} {B:Nat} {E:TypeId} {n:Nat} {cells:α -> List Value} {v u zv:Value} {l:List α} {z:α} {t:TypeId} {x:Operand} {a:Int} {len:Nat}
  {ty:TypeId} {ps:String} {af:Array Edge} {g:Option (Nat×Bool)} {dd:Nat} (hF:F[i]? =some (dd,fun _ w'=>Own B E n cells w' v (b1p z l a))) (hm:p.mu.contains i=true) (hG: ∀b,v.ownBlock=some b -> G b)
  (hn: ∀x,(cells x).length=n) (h1: ∀x,∀u∈cells x,u.oneCell'=true) (hn0:0<n) (hx:ev ρ x=u) (ht:P.underlying t=some (.slice E)) (hz: ∀w,(zeroValue E).run P w= .ok zv w) (hzc:zv.cells.toList=cells z) (hV:c4b u v n a len) (hO:Own B E n cells w v l):
  y9 P ⟨none,.call ⟨.builtin .clear,#[x],#[t]⟩,ty,ps,af,g⟩ (ev ρ) w fun v w'=>Ext (if p.mu.contains i then G else noG) w w' /\ fact F i (a9j ρ none v) w':=by
 obtain ⟨ad,L,c,a',c',hv,hlo,hL,hu,hp⟩:=hV
 have hLl:L=l.length:=by
  obtain ⟨_,_,hv2,_,_⟩:=hO.shape
  rw [hv] at hv2;simp only [Value.slice.injEq] at hv2;exact hv2.2.1
 have hzs:0<zv.cells.size:=by
  have:zv.cells.toList.length=n:=by rw [hzc,hn]
  simp at this;omega
 by_cases hlen:len=0
 ·have hcl:b1p z l a=l:=by unfold b1p;rw [show l.length-a.toNat=0 by omega,List.take_of_length_le (by omega)];simp
  have hrun:(execOp (ev ρ) ⟨none,.call ⟨.builtin .clear,#[x],#[t]⟩,ty,ps,af,g⟩).run P w= .ok (.value (.tuple #[])) w:=by
   subst hlen
   cases a'<;>simp [execOp,resolve,invoke,builtin,hx,hu,Builtin.clear_,run_underlying ht]
  unfold y9
  rw [hrun]
  refine ⟨Ext.refl _ _,?_⟩
  unfold fact
  rw [hF,hcl]
  exact hO
 ·obtain ⟨b',hb,ha'⟩:=hp (by omega)
  subst hb;subst ha'
  obtain ⟨b,o,cur0,rfl,hob,hB,hM,hml,hmc,hcm,hcl0,htake⟩:=hO.mb hv
  obtain ⟨cur,hcur0⟩: ∃cur,cur=cur0.drop o:=⟨_,rfl⟩
  rw [<- hcur0] at htake
  have hcl:c*n <= cur.length:=by rw [hcur0,List.length_drop];omega
  have hfl:(l.flatMap cells).length=l.length*n:=a07 hn l
  have hvl:((List.replicate len z).flatMap cells).length=len*n:=by rw [a07 hn,List.length_replicate]
  have hsum:a.toNat*n+len*n=l.length*n:=by rw [<- Nat.add_mul];congr 1;omega
  have hle:a.toNat*n+((List.replicate len z).flatMap cells).length <= cur.length:=by
   rw [hvl,hsum];exact Nat.le_trans (Nat.mul_le_mul_right n (by omega)) hcl
  have hopos:o <= cur0.length /\ o+cur.length=cur0.length:=by
   have h7:0<l.length*n:=Nat.mul_pos (by omega) hn0
   have h8:l.length*n <= c*n:=Nat.mul_le_mul_right n (by omega)
   rw [hcur0,List.length_drop];omega
  obtain ⟨w',hr,hM',hE⟩:=b18 (P:=P) ((List.replicate len z).flatMap cells) (o+a.toNat*n) cur0 w hM (by omega) (c35 h1)
  have hrun:(execOp (ev ρ) ⟨none,.call ⟨.builtin .clear,#[x],#[t]⟩,ty,ps,af,g⟩).run P w= .ok (.value (.tuple #[])) w':=by
   have h2:=a9y (P:=P) (w:=w) (a:=(⟨b,0,none⟩:Addr)) ((List.replicate len z).flatMap cells) (o+a.toNat*n) 0
   simp only [Nat.add_zero] at h2
   have h3:(⟨b,o,none⟩:Addr).add (a.toNat*n)=(⟨b,0,none⟩:Addr).add (o+a.toNat*n):=by rw [Addr.add_lit,Addr.add_lit,Nat.zero_add]
   cases len with
   | zero=>exact absurd rfl hlen
   | succ len=>simp [execOp,resolve,invoke,builtin,hx,hu,Builtin.clear_,run_underlying ht,hz,c9p hzc hzs,h3,h2,hr]
  unfold y9
  rw [hrun]
  refine ⟨?_,?_⟩
  ·show Ext (if p.mu.contains i then G else noG) w w'
   rw [hm,if_pos rfl]
   exact hE.mono (fun c hc=>hG c (by rw [hc];exact hob))
  unfold fact
  rw [hF]
  show Own B E n cells w' v (b1p z l a)
  have hcur:cur=l.flatMap cells++cur.drop (l.length*n):=by rw [<- htake,List.take_append_drop]
  have hcll:(b1p z l a).length=l.length:=by unfold b1p;simp;omega
  have htl: ∀(l:List α) (k:Nat),k <= l.length -> (l.flatMap cells).take (k*n)=(l.take k).flatMap cells:=by
   intro l
   induction l with
   | nil=>intro k hk;simp
   | cons y l ih=>
     intro k hk
     cases k with
     | zero=>simp
     | succ k=>
       rw [List.take_succ_cons,List.flatMap_cons,List.flatMap_cons,Nat.succ_mul,Nat.add_comm,<- hn y,List.take_length_add_append,hn y,ih k (by simpa using hk)]
  have key:cur.take (a.toNat*n)++(List.replicate len z).flatMap cells++cur.drop (a.toNat*n+((List.replicate len z).flatMap cells).length)=(b1p z l a).flatMap cells++cur.drop (l.length*n):=by
   rw [hvl,hsum]
   have e1:cur.take (a.toNat*n)=(l.take a.toNat).flatMap cells:=by
    conv=>lhs;rw [hcur]
    rw [List.take_append_of_le_length (by rw [hfl];exact Nat.mul_le_mul_right n (by omega)),htl l _ (by omega)]
   have e2:l.length-a.toNat=len:=by omega
   rw [e1]
   unfold b1p
   rw [List.flatMap_append,e2]
  have hdrop:(cur0.take (o+a.toNat*n)++(List.replicate len z).flatMap cells++cur0.drop (o+a.toNat*n+((List.replicate len z).flatMap cells).length)).drop o=cur.take (a.toNat*n)++(List.replicate len z).flatMap cells++cur.drop (a.toNat*n+((List.replicate len z).flatMap cells).length):=by
   have hlo:(cur0.take o).length=o:=by rw [List.length_take];omega
   rw [List.take_add,<- hcur0,Nat.add_assoc,<- List.drop_drop,<- hcur0,List.append_assoc,List.append_assoc]
   conv=>lhs;arg 1;rw [<- hlo]
   rw [List.drop_left,List.append_assoc]
  refine .inr ⟨b,o,c,_,by rw [hv,hLl,hcll],hB,hM',by omega,hcm,?_,?_⟩
  ·simp only [List.size_toArray,qL,List.length_take,List.length_drop]
   omega
  ·show (List.drop o (_:List Value)).take _=_
   rw [List.toList_toArray,hdrop,key,hcll,<- hcll,<- a07 hn,List.take_left]
end Go.PL
namespace Go.PL
open Go
def u8R:TyR Int:=TyR.flat 1 (fun x=>[.int .u8 x]) (fun _=>rfl)
theorem j5.bytes {G:Nat -> Prop} {w:World} {a:Addr} {n c:Nat} {l:List Int} (h:j5 u8R G w (.slice (some a) n c) l):n=l.length /\ ∀j x,l[j]? =some x -> w.cell? (a.add j)=some (.int .u8 x):=by
 rcases h with ⟨h1,_⟩ | ⟨a',cap,hv,_,_,hi⟩
 ·cases h1
 ·cases hv
  refine ⟨rfl,fun j x hx=> ?_⟩
  obtain ⟨cs,hr,_,_,hca⟩:=hi j x hx
  have hr:cs=[.int .u8 x]:=hr
  subst hr
  have:=hca 0 _ rfl
  have e:(a.add (j*u8R.n)).add 0=a.add j:=by
   show (a.add (j*1)).add 0=a.add j
   rw [Nat.mul_one];unfold Addr.add;simp
  rw [e] at this
  exact this
def b9o (l:List Int):ByteArray:=⟨(Lib.bytesOf l).toArray⟩
section
variable {P:Program} {η:Operand -> Value} {w:World} {d:Option Tmp} {ty:TypeId} {ps:String} {af:Array Edge} {g:Option (Nat×Bool)} {x y:Operand} {t t':TypeId} {a b c:ByteArray} {q:Bool}
theorem e8s {v:Value} {l:List Int} {G:Nat -> Prop} (h:j5 u8R G w v l):(Conv.bytesToString v).run P w= .ok (.string (b9o l)) w:=by
 have h':=h
 rcases h with ⟨rfl,rfl⟩ | ⟨a,cap,rfl,_⟩
 ·rfl
 ·obtain ⟨_,hc⟩:=h'.bytes
  have hl:(loadCells a l.length).run P w= .ok (l.map (Value.int .u8)).toArray w:=by
   have hca:CA w a (l.map (Value.int .u8)):=by
    intro j v hj
    rw [List.getElem?_map] at hj
    obtain ⟨x,hx,rfl⟩:=Option.map_eq_some_iff.1 hj
    exact hc j x hx
   have:=b0y (P:=P) l.length 0 #[] (l.map (Value.int .u8)) (by simp) (fun j v hj=>by rw [Nat.zero_add];exact hca j v hj)
   simpa [loadCells] using this
  rw [run_bytesToString w a l.length cap l hl]
  congr 2
  have key: ∀(l:List Int) (s:ByteArray),l.foldl (fun r n=>r.push (UInt8.ofNat n.toNat)) s=⟨s.data++(Lib.bytesOf l).toArray⟩:=by
   intro l
   induction l with
   | nil=>intro s;apply ByteArray.ext;simp [Lib.bytesOf]
   | cons n l ih=>intro s;rw [List.foldl_cons,ih];apply ByteArray.ext;simp [Lib.bytesOf,ByteArray.push]
  rw [key]
  apply ByteArray.ext
  simp [b9o]
theorem f8c {S T:TypeId} {v:Value} {l:List Int} {G:Nat -> Prop} (hx:η x=v) (hcv: ∀(a:Option Addr) (n c:Nat) (w:World),(convert S T (.slice a n c)).run P w=(Conv.bytesToString (.slice a n c)).run P w) (h:j5 u8R G w v l):YV P η w ⟨d,.convert S T x,ty,ps,af,g⟩ (.string (b9o l)):=by
 obtain ⟨a,c,hv,_,_⟩:=h.shape
 have hr:=e8s (P:=P) h
 rw [hv] at hr hx
 simp [YV,execOp,hx,hcv,hr,Result.andThen]
end
def It (w:World) (b:Nat) (s:ByteArray) (p:Int):Prop:=0 <= p /\ w.heap[b]? =some (.stringIter s p.toNat)
def e15 (s:ByteArray) (p:Int):Option Int:=if p<(s.size:Int) then (if (s.get! p.toNat).toNat<128 then some ((s.get! p.toNat).toNat:Int) else none) else some 0
def d5j (s:ByteArray) (p:Int):Int:=if p<(s.size:Int) then p+1 else p
def nxV (b:Bool) (p c:Int):Value:=if b=true then .tuple #[.bool true,.int .i64 p,.int .i32 c] else .tuple #[.bool false]
section
variable {P:Program} {ρ:Nat -> Value} {w:World} {G:Nat -> Prop} {F:List Fact} {p:Plan} {i:Nat} {η:Operand -> Value} {d:Option Tmp} {ty:TypeId} {ps:String} {af:Array Edge} {g:Option (Nat×Bool)} {x:Operand}
theorem d5s {t:TypeId} {s:ByteArray} (hu:P.underlying t=some .string):(Instr.range t (.string s)).run P w= .ok (.pointer (some ⟨w.heap.size,0,none⟩)) (w.alloc (.stringIter s 0)):=by
 simp [Instr.range,run_underlying hu,Result.andThen]
theorem d87 {b:Nat} {s:ByteArray} {q c:Int} (h:It w b s q) (hc:e15 s q=some c): ∃w',(Instr.next (.pointer (some ⟨b,0,none⟩)) true ty).run P w= .ok (nxV (decide (q<(s.size:Int))) q c) w' /\ Ext (fun x=>x=b) w w' /\ It w' b s (d5j s q):=by
 obtain ⟨h0,h1⟩:=h
 unfold e15 at hc
 have hget:(getObj b).run P w= .ok (.stringIter s q.toNat) w:=by simp [getObj,Sem.run,h1]
 by_cases hp:q<(s.size:Int)
 ·rw [if_pos hp] at hc
  split at hc
  case isFalse=>cases hc
  rename_i h128
  obtain rfl:=qH hc
  have hdec:Utf8.decode s q.toNat=((s.get! q.toNat).toNat,1):=by
   unfold Utf8.decode
   simp [h128]
  have hset:(setObj b (.stringIter s (q.toNat+1))).run P w= .ok () ({w with heap:=w.heap.setIfInBounds b (.stringIter s (q.toNat+1))}):=by simp [setObj,Sem.run,h1]
  refine ⟨{w with heap:=w.heap.setIfInBounds b (.stringIter s (q.toNat+1))},?_,?_,?_⟩
  ·have hlt:q.toNat<s.size:=by omega
   have hq:((q.toNat:Nat):Int)=q:=by omega
   simp [Instr.next,hget,hset,hlt,hdec,Result.andThen,nxV,hp,goInt,hq]
  ·refine ⟨rfl,rfl,rfl,?_,fun b' hb' hg=> ?_⟩
   ·simp
   ·have:b'≠b:=fun e=>hg e
    simp [Array.getElem?_setIfInBounds,this.symm]
  ·have hb:b<w.heap.size:=(qN.1 h1).1
   unfold d5j
   rw [if_pos hp]
   refine ⟨by omega,?_⟩
   rw [show (q+1).toNat=q.toNat+1 by omega]
   simp [Array.getElem?_setIfInBounds,hb]
 ·rw [if_neg hp] at hc
  obtain rfl:=qH hc
  refine ⟨w,?_,⟨rfl,rfl,rfl,Nat.le_refl _,fun _ _ _=>rfl⟩,?_⟩
  ·have hlt: ¬q.toNat<s.size:=by omega
   simp [Instr.next,hget,hlt,Result.andThen,nxV,hp]
  ·unfold d5j;rw [if_neg hp];exact ⟨h0,h1⟩
end
end Go.PL
namespace Go.SX
open Go Go.PL
inductive PE where
 | f (n:Nat)
 | i (n:Int)
inductive AV (C:Type) (T:C -> Type) where
 | unk | undef | nils | nilp
 | bool (b:Bool)
 | int (k:IntKind) (n:Int)
 | str (s:ByteArray)
 | val (c:C) (x:T c)
 | list (c:C) (l:List (T c))
 | rp (a:AV C T)
 | ref (id:Nat)
 | fref (id:Nat) (c:C) (p:List PE)
 | clo (f:FuncId) (as:List (AV C T))
 | tup (as:List (AV C T))
 | st (c:C) (as:List (AV C T))
 | vw (id:Nat) (c:C) (lo:Int) (n:Nat)
 | bnd (f:FuncId) (a:AV C T)
 | km (g:FuncId) (t:TypeId) (l:List (Int×Int))
 | vl (g:FuncId) (t:TypeId) (c:C) (l:List (T c))
 | mi
 | va (id:Nat) (c:C) (p:List PE) (k:Nat)
 | ifc (t:TypeId) (a:AV C T)
inductive MC (C:Type) (T:C -> Type) where
 | never | dead
 | box (t:TypeId) (a:AV C T)
 | sl (e:TypeId) (c:C) (l:List (T c))
 | fz (c:C) (l:List (T c))
 | it (s:ByteArray) (p:Int)
 | mp (l:List (Int×Int))
structure Uni where
 C:Type
 T:C -> Type
 dec:DecidableEq C
 c0:C
 n:C -> Nat
 ag:C -> Bool
 lay:C -> List (Option C)
 flds: ∀c,T c -> List (AV C T)
 mkv: ∀c,List (AV C T) -> Option (T c)
 cd:TypeId -> Option C
 flat:C -> Bool
 isA:C -> Bool
 ae:C -> C
 an:C -> Nat
 al: ∀c,T c -> List (T (ae c))
 as: ∀c,T c -> Int -> T (ae c) -> T c
 gt: ∀c,T c -> Int -> T (ae c)
 b8:C -> Bool
 t8: ∀c,T c -> Int
 tab:World -> Prop
 tb:Nat -> Prop
section
variable {α:Type}
def lk (t:Nat):List (Nat×α) -> Option α
 | []=>none
 | (k,a)::r=>bif Nat.beq k t then some a else lk t r
end
structure St (C:Type) (T:C -> Type) where
 sl:List (Nat×AV C T)
 me:List (Nat×MC C T)
 nx:Nat
namespace St
variable {C:Type} {T:C -> Type}
def slot (σ:St C T) (t:Nat):AV C T:=match lk t σ.sl with | some a=>a | none=> .unk
def mem (σ:St C T) (id:Nat):MC C T:=match lk id σ.me with | some a=>a | none=> .never
def put (σ:St C T) (d:Option Tmp) (a:AV C T):St C T:=match d with | some d=>⟨(d,a)::σ.sl,σ.me,σ.nx⟩ | none=>σ
def app (σ:St C T) (d:Option Tmp) (a:AV C T) (ws:List (Nat×MC C T)):St C T:=(⟨σ.sl,ws++σ.me,σ.nx⟩:St C T).put d a
end St
inductive Q (C:Type) (T:C -> Type):Type 1 where
 | rdT (t:Nat) (k:AV C T -> Q C T)
 | rdM (id:Nat) (k:MC C T -> Q C T)
 | opt {β:Type} (o:Option β) (k:β -> Q C T)
 | cas {β:Type} (o:Option β) (n:Q C T) (k:β -> Q C T)
 | done (v:AV C T) (ws:List (Nat×MC C T))
 | fail
abbrev optC {α β:Type} (o:Option α) (n:Option β) (f:α -> Option β):Option β:=match o with
 | none=>n
 | some a=>f a
namespace Q
variable {C:Type} {T:C -> Type}
def eval {R:Type} (σ:St C T):Q C T -> Nat -> (Nat -> AV C T -> List (Nat×MC C T) -> Option R) -> Option R
 | .rdT t k,m,K=>match σ.slot t with | .unk=>none | a=>(k a).eval σ (m ||| 2^(2*t)) K
 | .rdM id k,m,K=>(k (σ.mem id)).eval σ (m ||| 2^(2*id+1)) K
 | .opt o k,m,K=>Option.bind o fun b=>(k b).eval σ m K
 | .cas o n k,m,K=>optC o (n.eval σ m K) fun b=>(k b).eval σ m K
 | .done v ws,m,K=>K m v ws
 | .fail,_,_=>none
def Ev (σ:St C T):Q C T -> Nat -> Nat -> AV C T -> List (Nat×MC C T) -> Prop
 | .rdT t k,m0,m,v,ws=>σ.slot t≠ .unk /\ (k (σ.slot t)).Ev σ (m0 ||| 2^(2*t)) m v ws
 | .rdM id k,m0,m,v,ws=>(k (σ.mem id)).Ev σ (m0 ||| 2^(2*id+1)) m v ws
 | .opt o k,m0,m,v,ws=> ∃b,o=some b /\ (k b).Ev σ m0 m v ws
 | .cas o n k,m0,m,v,ws=>(o=none /\ n.Ev σ m0 m v ws) \/ ∃b,o=some b /\ (k b).Ev σ m0 m v ws
 | .done v' ws',m0,m,v,ws=>m=m0 /\ v=v' /\ ws=ws'
 | .fail,_,_,_,_=>False
end Q
section
variable (P:Program) (U:Uni)
abbrev Uni.AV (U:Uni):=SX.AV U.C U.T
abbrev Uni.MC (U:Uni):=SX.MC U.C U.T
abbrev Uni.Q (U:Uni):=SX.Q U.C U.T
abbrev Uni.St (U:Uni):=SX.St U.C U.T
def cst {U:Uni} (c:U.C) {c':U.C} (x:U.T c'):Option (U.T c):=match U.dec c' c with
 | .isTrue h=>some (h▸x)
 | .isFalse _=>none
def b44 {U:Uni} (c:U.C) {c':U.C} (x:List (U.T c')):Option (List (U.T c)):=match U.dec c' c with
 | .isTrue h=>some (h▸x)
 | .isFalse _=>none
def asz {U:Uni}:U.AV -> Nat
 | .val c _=>U.n c
 | .st c _=>U.n c
 | _=>1
def osz {U:Uni}:Option U.C -> Nat
 | some c=>U.n c
 | none=>1
def off {U:Uni} (c:U.C) (f:Nat):Nat:=(((U.lay c).take f).map osz).sum
def inj {U:Uni} (c:U.C) (x:U.T c):U.AV:=match U.ag c with
 | true=> .val c x
 | false=>match U.flds c x with | [a]=>a | _=> .unk
def prj {U:Uni} (c:U.C) (a:U.AV):Option (U.T c):=match U.ag c with
 | true=>match a with
   | .val _ x=>cst c x
   | .st c' as=>(match U.mkv c' as with | some x=>cst c x | none=>none)
   | _=>none
 | false=>U.mkv c [a]
def b6v {U:Uni}:Value -> Option U.AV
 | .bool b=>some (.bool b)
 | .int k n=>some (.int k n)
 | .string s=>some (.str s)
 | .slice none 0 0=>some .nils
 | .pointer none=>some .nilp
 | _=>none
def rdO {U:Uni} (x:Operand) (k:U.AV -> U.Q):U.Q:=match x with
 | .tmp t=> .rdT t k
 | .const v=>match b6v v with | some a=>k a | none=> .fail
 | .func f=>k (.clo f [])
 | .global _=> .fail
def e7s {U:Uni}:List Operand -> (List U.AV -> U.Q) -> U.Q
 | [],k=>k []
 | x::r,k=>rdO x fun a=>e7s r fun as=>k (a::as)
def szT (t:TypeId):Nat:=match P.info? t with | some i=>i.size | none=>0
def d5f (t:TypeId) (n:Nat):Bool:=match P.info? t with | some i=>Nat.beq i.size n | none=>false
def c56 (t:TypeId):Nat:=match P.info? t with | some i=>i.bytes | none=>0
def f1g (t:TypeId) (b:Bool):Bool:=match P.underlying t with
 | some (.struct _)=>b
 | some (.array _ _)=>b
 | some _=> !b
 | none=>false
def a6c {U:Uni}:U.AV -> Bool | .val _ _=>true | .st _ _=>true | _=>false
def u9 {U:Uni}:U.AV -> Option U.C
 | .val c _=>some c
 | .st c _=>some c
 | _=>none
def c6q {U:Uni}:U.AV -> Bool
 | .bool _ | .int _ _ | .str _ | .val _ _ | .list _ _=>true
 | _=>false
def b4v {U:Uni}:U.AV -> Bool
 | .bool _ | .int _ _ | .str _ | .val _ _ | .list _ _=>true
 | .rp a=>c6q a
 | .nilp=>true
 | _=>false
def f1w {U:Uni}:U.AV -> Bool
 | .bool _ | .int _ _ | .str _=>true
 | .val c _=>U.flat c
 | _=>false
def eqC {U:Uni} (c c':U.C):Bool:=match U.dec c c' with | .isTrue _=>true | .isFalse _=>false
def u7 {U:Uni}:U.AV -> Bool
 | .bool _ | .int _ _ | .str _ | .val _ _ | .list _ _ | .nils | .ref _ | .rp _ | .nilp=>true
 | _=>false
def a8j {U:Uni}:U.AV -> Bool
 | .st _ as=>as.all u7
 | a=>u7 a
def c65 {U:Uni} (a b:U.AV):Bool:=match u9 a,u9 b with
 | none,none=>true
 | some c,some c'=>eqC c c'
 | _,_=>false
def c63 {U:Uni} (a:U.AV):U.AV:=match a with
 | .st c as=>(match U.mkv c as with | some x=> .val c x | none=> .st c as)
 | a=>a
def f7n {U:Uni}:U.AV -> Bool | .nils=>true | _=>false
def f6e {U:Uni} (c:U.C) (as:List U.AV):Option U.AV:=match U.mkv c as with
 | some x=>(match as.any f7n with | true=>some (.st c as) | false=>some (.val c x))
 | none=>none
def e33 {U:Uni}:U.AV -> Option (U.C×List U.AV)
 | .val c x=>some (c,U.flds c x)
 | .st c as=>some (c,as)
 | _=>none
def b5i {U:Uni}:U.AV -> Bool
 | .clo _ _ | .tup _ | .vw _ _ _ _ | .bnd _ _ | .km _ _ _ | .vl _ _ _ _ | .va _ _ _ _ | .ifc _ _=>false
 | _=>true
def b0e {U:Uni} (t:TypeId) (a:U.AV):Bool:=a8j a&&f1g P t (a6c a)&&d5f P t (asz a)
def e53 {U:Uni} (g:TypeId -> List Value -> Option U.AV):List Field -> List Value -> Option (List U.AV)
 | [],[]=>some []
 | [],_::_=>none
 | f::fs,cs=>match g f.type (cs.take (szT P f.type)) with
   | some a=>(match e53 g fs (cs.drop (szT P f.type)) with | some as=>some (c63 a::as) | none=>none)
   | none=>none
def e40 {U:Uni} (g:TypeId -> List Value -> Option U.AV):Nat -> TypeId -> List Value -> Option (List U.AV)
 | 0,_,[]=>some []
 | 0,_,_::_=>none
 | m+1,e,cs=>match g e (cs.take (szT P e)) with
   | some a=>(match e40 g m e (cs.drop (szT P e)) with | some as=>some (c63 a::as) | none=>none)
   | none=>none
def e1m {U:Uni}:Nat -> TypeId -> List Value -> Option U.AV
 | 0,_,_=>none
 | n+1,t,cs=>match P.underlying t with
   | some (.struct fs)=>(match U.cd t with
     | some c=>(match e53 P (e1m n) fs.toList cs with
       | some as=>(match U.ag c with | true=>f6e c as | false=>none)
       | none=>none)
     | none=>none)
   | some (.array m e)=>(match U.cd t with
     | some c=>(match e40 P (e1m n) m e cs with
       | some as=>(match U.ag c,U.mkv c as with | true,some x=>some (.val c x) | _,_=>none)
       | none=>none)
     | none=>none)
   | _=>(match cs with | [v]=>b6v v | _=>none)
def b3o {U:Uni} (t:TypeId):Option U.AV:=match P.info? t with
 | some i=>match i.zero with | some z=>e1m P 100 t z.cells.toList | none=>none
 | none=>none
def binI {U:Uni} (op:BinOp) (k:IntKind) (a b:Int):U.Q:=match op with
 | .add=> .done (.int k (k.wrap (a+b))) []
 | .sub=> .done (.int k (k.wrap (a-b))) []
 | .mul=> .done (.int k (k.wrap (a*b))) []
 | .quo=> .opt (if b=0 then none else some (k.wrap (a.tdiv b))) fun c=> .done (.int k c) []
 | .rem=> .opt (if b=0 then none else some (a.tmod b)) fun c=> .done (.int k c) []
 | .and=> .done (.int k (e42 k a b)) []
 | .or=> .done (.int k (orK k a b)) []
 | .xor=> .done (.int k (f7l k a b)) []
 | .lss=> .done (.bool (decide (a<b))) []
 | .leq=> .done (.bool (decide (a <= b))) []
 | .gtr=> .done (.bool (decide (b<a))) []
 | .geq=> .done (.bool (decide (b <= a))) []
 | .eql=> .done (.bool (a==b)) []
 | .neq=> .done (.bool (a != b)) []
 | _=> .fail
def eqK (k k':IntKind):Bool:=match decEq k k' with | .isTrue _=>true | .isFalse _=>false
def f7v {U:Uni} (op:BinOp) (t:TypeId) (x y:U.AV):U.Q:=match x,y with
 | .int k a,.int k' b=>match op with
   | .shl=> .opt (f1r k a b) fun c=> .done (.int k c) []
   | .shr=> .opt (d3f k a b) fun c=> .done (.int k c) []
   | _=>match eqK k k' with | true=>binI op k a b | false=> .fail
 | .str a,.str b=>match op with
   | .add=> .opt (a65 a b) fun c=> .done (.str c) []
   | .eql=> .done (.bool (a.toList==b.toList)) []
   | .neq=> .done (.bool (a.toList != b.toList)) []
   | .lss=> .done (.bool (Op.bytesLess a.toList b.toList)) []
   | _=> .fail
 | .bool p,.bool r=>match P.underlying t with
   | some .bool=>match op with
     | .eql=> .done (.bool (p==r)) []
     | .neq=> .done (.bool (p != r)) []
     | _=> .fail
   | _=> .fail
 | _,_=> .fail
def f6h {U:Uni} (g:TypeId -> U.AV -> U.AV -> Option Bool):Nat -> List Field -> List U.AV -> List U.AV -> Option Bool
 | _,[],[],[]=>some true
 | o,f::fs,a::as,b::bs=>match (f.name != "_")&&(Nat.beq f.offset o&&(b0e P f.type a&&(b0e P f.type b&&(u7 a&&(u7 b&&Nat.beq (asz a) (asz b)))))) with
   | true=>(match g f.type a b with
     | some r=>(match f6h g (o+asz a) fs as bs with | some q=>some (r&&q) | none=>none)
     | none=>none)
   | false=>none
 | _,_,_,_=>none
def eqA {U:Uni}:Nat -> TypeId -> U.AV -> U.AV -> Option Bool
 | 0,_,_,_=>none
 | n+1,t,a,b=>match a,b with
   | .int k x,.int k' y=>(match P.underlying t,eqK k k' with | some (.int _),true=>some (x==y) | _,_=>none)
   | .bool p,.bool q=>(match P.underlying t with | some .bool=>some (p==q) | _=>none)
   | .str p,.str q=>(match P.underlying t with | some .string=>some (p.toList==q.toList) | _=>none)
   | a,b=>(match e33 a,e33 b with
     | some (_,as),some (_,bs)=>(match P.underlying t,P.stoodInHeld t with
       | some (.struct fs),false=>f6h P (eqA n) 0 fs.toList as bs
       | _,_=>none)
     | _,_=>none)
def f8k {U:Uni} (op:BinOp) (t:TypeId) (a b:U.AV):U.Q:=match P.eqGuardType P.depth t,eqA P 100 t a b with
 | false,some r=>(match op with
   | .eql=> .done (.bool r) []
   | .neq=> .done (.bool (!r)) []
   | _=> .fail)
 | _,_=> .fail
def unQ {U:Uni} (op:UnOp) (x:U.AV):U.Q:=match op,x with
 | .not,.bool p=> .done (.bool (!p)) []
 | .neg,.int k a=> .done (.int k (k.wrap (-a))) []
 | _,_=> .fail
def e9h {U:Uni} (s t:TypeId) (x:U.AV):U.Q:=match P.underlying s,P.underlying t,x with
 | some (.int _),some (.int k),.int _ n=> .done (.int k (k.wrap n)) []
 | some .string,some .string,.str b=> .done (.str b) []
 | _,_,_=> .fail
def b38 {U:Uni}:(k:Nat) -> List Field -> List U.AV -> List U.AV×List (Nat×U.MC)
 | k,f::fs,.nils::as=>match P.underlying f.type with
   | some (.slice e)=>(match U.cd e with
     | some c=>(.ref k::(b38 (k+1) fs as).1,(k,.sl e c [])::(b38 (k+1) fs as).2)
     | none=>(.nils::(b38 k fs as).1,(b38 k fs as).2))
   | _=>(.nils::(b38 k fs as).1,(b38 k fs as).2)
 | k,_::fs,a::as=>(a::(b38 k fs as).1,(b38 k fs as).2)
 | _,_,as=>(as,[])
def f1p {U:Uni}:List Nat -> U.Q -> U.Q
 | [],q=>q
 | i::is,q=> .rdM i fun | .never=>f1p is q | _=> .fail
def f2m {U:Uni} (fr:Nat) (t:TypeId) (a:U.AV):U.AV×List (Nat×U.MC):=match a with
 | .st c as=>(match P.underlying t with
   | some (.struct fs)=>(match b38 P (fr+1) fs.toList as with | (as',ms)=>(.st c as',ms))
   | _=>(.st c as,[]))
 | a=>(a,[])
def b90 {U:Uni} (fr:Nat) (t:TypeId) (id:Nat) (a v:U.AV) (ws:List (Nat×U.MC)):U.Q:=match f2m P fr t a with
 | (_,[])=> .done v ws
 | (a',m::ms)=>f1p ((m::ms).map (·.1)) (.done v ((id,.box t a')::((m::ms)++ws)))
def f3p {U:Uni} (fr:Nat) (t:TypeId) (a:U.AV):U.Q:= .rdM fr fun
 | .never=>b90 P fr t fr a (.ref fr) [(fr,.box t a)]
 | _=> .fail
def nav {U:Uni}:U.AV -> List PE -> Option U.AV
 | a,[]=>some a
 | .val c x,.f n::p=>match (U.flds c x)[n]? with | some b=>nav b p | none=>none
 | .st c as,.f n::p=>match as[n]? with | some b=>nav b p | none=>none
 | .val c x,.i n::p=>match U.isA c with | true=>nav (inj (U.ae c) (U.gt c x n)) p | false=>none
 | _,_=>none
def c0t {U:Uni} (b:U.AV):U.AV -> List PE -> Option U.AV
 | _,[]=>some b
 | .val c x,.f n::p=>match (U.flds c x)[n]? with
   | some a=>match c0t b a p with
     | some a'=>match Nat.beq (asz a) (asz a')&&(a6c a==a6c a') with
       | true=>(U.mkv c ((U.flds c x).set n a')).map fun y=> .val c y
       | false=>none
     | none=>none
   | none=>none
 | .st c as,.f n::p=>match as[n]? with
   | some a=>match c0t b a p with
     | some a'=>match c65 a a'&&u7 a' with
       | true=>some (.st c (as.set n a'))
       | false=>none
     | none=>none
   | none=>none
 | .val c x,.i n::p=>match U.isA c with
   | true=>match c0t b (inj (U.ae c) (U.gt c x n)) p with
     | some a'=>match prj (U.ae c) a' with | some y=>some (.val c (U.as c x n y)) | none=>none
     | none=>none
   | false=>none
 | _,_=>none
def e6p {U:Uni} (m:U.MC) (p:List PE) (k:U.AV -> U.Q):U.Q:=match m,p with
 | .box _ (.val ca x),.i n::p=>match U.isA ca with
   | true=> .opt (c8 (U.al ca x) n) fun y=>match nav (inj (U.ae ca) y) p with | some b=>k b | none=> .fail
   | false=> .fail
 | .box _ a,p=>match nav a p with | some b=>k b | none=> .fail
 | .sl _ c l,.i n::p=> .opt (c8 l n) fun y=>match nav (inj c y) p with | some b=>k b | none=> .fail
 | _,_=> .fail
def d0q {U:Uni} (m:U.MC) (p:List PE) (b:U.AV) (k:U.MC -> U.Q):U.Q:=match m,p with
 | .box t (.val ca x),.i n::p=>match U.isA ca with
   | true=> .opt (c8 (U.al ca x) n) fun y=>match c0t b (inj (U.ae ca) y) p with
     | some a'=>match prj (U.ae ca) a' with | some y'=>k (.box t (.val ca (U.as ca x n y'))) | none=> .fail
     | none=> .fail
   | false=> .fail
 | .box t a,p=>match c0t b a p with
   | some a'=>match Nat.beq (asz a) (asz a')&&(a6c a==a6c a')&&a8j a with | true=>k (.box t a') | false=> .fail
   | none=> .fail
 | .sl e c l,.i n::p=> .opt (c8 l n) fun y=>match c0t b (inj c y) p with
   | some a'=>match prj c a' with | some y'=>k (.sl e c (b0i l n y')) | none=> .fail
   | none=> .fail
 | _,_=> .fail
def e9m {U:Uni} (c:U.C) (m:U.MC):Bool:=match m with
 | .box _ (.val c' _)=>eqC c c'
 | .box _ (.st c' _)=>eqC c c'
 | .sl _ c' _=>eqC c c'
 | _=>false
def d0r {U:Uni}:List U.AV -> (List U.AV -> List (Nat×U.MC) -> U.Q) -> U.Q
 | [],k=>k [] []
 | .ref id::r,k=> .rdM id fun m=>match m with
   | .sl _ c l=>d0r r fun as ws=>k (.list c l::as) ((id,.fz c l)::ws)
   | .fz c l=>d0r r fun as ws=>k (.list c l::as) ws
   | _=> .fail
 | a::r,k=>d0r r fun as ws=>k (c63 a::as) ws
def b5c {U:Uni} (c:U.C) (m:U.MC) (p:List PE):Bool:=match m,p with
 | .box _ (.val ca _),.i _::_=>U.isA ca&&eqC c (U.ae ca)
 | m,_=>e9m c m
def f4d {U:Uni} (t:TypeId) (x:U.AV):U.Q:=match x with
 | .ref id=> .rdM id fun m=>e6p m [] fun b=>match b with
   | .st c fs=>d0r fs fun as ws=>match U.mkv c as with
     | some x=>(match b0e P t (.val c x:U.AV) with | true=> .done (.val c x) ws | false=> .fail)
     | none=> .fail
   | b=>match b0e P t b with | true=> .done b [] | false=> .fail
 | .fref id c p=> .rdM id fun m=>match b5c c m p with
   | true=>e6p m p fun b=>match b0e P t b with | true=> .done b [] | false=> .fail
   | false=> .fail
 | .rp b=>match b0e P t b with | true=> .done b [] | false=> .fail
 | _=> .fail
def e0i {U:Uni} (t:TypeId) (x:U.AV):U.Q:=match x with
 | .ref id=> .rdM id fun m=>match m with
   | .box _ (.st c fs)=>(match b0e P t (.st c fs:U.AV) with | true=> .done (.st c fs) [] | false=> .fail)
   | _=> .fail
 | _=> .fail
def b5e {U:Uni} (id:Nat) (x:U.AV):Bool:=match x with | .ref id'=>Nat.beq id id' | _=>false
def f2a {U:Uni} (m:U.MC) (p:List PE) (y:U.AV):Bool:=match m,p,y with
 | .box _ (.st _ _),[.f _],.ref _=>true
 | _,_,_=>false
def d9h {U:Uni} (fr:Nat) (t:TypeId) (x y:U.AV):U.Q:=match b0e P t y with
 | true=>match x with
   | .ref id=> .rdM id fun m=>d0q m [] y fun m'=>match m' with
     | .box t' a=>b90 P fr t' id a .undef [(id,.box t' a)]
     | _=> .fail
   | .fref id c p=> .rdM id fun m=>match b5c c m p with
     | true=>match f2a m p y with
       | true=>d0q m p y fun m'=> .done .undef [(id,m')]
       | false=>match b5e id y with
         | true=> .fail
         | false=>d0r [y] fun as ws=>match as with
           | [y']=>(match b0e P t y' with | true=>d0q m p y' fun m'=> .done .undef ((id,m')::ws) | false=> .fail)
           | _=> .fail
     | false=> .fail
   | _=> .fail
 | false=> .fail
def d1l {U:Uni} (fr:Nat) (t:TypeId) (x y:U.AV):U.Q:=match b0e P t y,x with
 | true,.fref id c [.f n]=> .rdM id fun m=>match m with
   | .box t' (.val c' z)=>(match eqC c c'&& !(b5e id y) with
     | true=>d0q (.box t' (.st c' (U.flds c' z))) [.f n] y fun m'=>match m' with | .box t1 a=>b90 P fr t1 id a .undef [(id,.box t1 a)] | _=> .fail
     | false=> .fail)
   | .box t' (.st c' fs)=>(match eqC c c'&& !(b5e id y) with
     | true=>d0q (.box t' (.st c' fs)) [.f n] y fun m'=>match m' with | .box t1 a=>b90 P fr t1 id a .undef [(id,.box t1 a)] | _=> .fail
     | false=> .fail)
   | _=> .fail
 | _,_=> .fail
def e6z {U:Uni} (c:U.C):Bool:=match U.lay c with | [none]=>true | _=>false
def d24 {U:Uni} (fr:Nat) (t:TypeId):U.Q:=match P.underlying t,U.cd t,(b3o P t:Option U.AV) with
 | some (.slice e),some cl,some .nils=>(match U.cd e,e6z cl with
   | some c,true=> .rdM fr fun
     | .never=> .rdM (fr+1) fun | .never=> .done (.ref fr) [(fr,.box t (.st cl [.ref (fr+1)])),(fr+1,.sl e c [])] | _=> .fail
     | _=> .fail
   | _,_=> .fail)
 | _,_,_=> .fail
def f0n {U:Uni} (fr:Nat) (t:TypeId) (x:U.AV):U.Q:=match x,U.cd t with
 | .ref k,some cl=>(match b0e P t (.ref k:U.AV)&&e6z cl with
   | true=> .rdM fr fun | .never=> .done (.ref fr) [(fr,.box t (.st cl [.ref k]))] | _=> .fail
   | false=> .fail)
 | _,_=> .fail
def d8d {U:Uni} (t:TypeId) (x:U.AV):U.Q:=match x with
 | .ref id=> .rdM id fun m=>match m with
   | .box _ (.st _ [.ref j])=>(match b0e P t (.ref j:U.AV) with | true=> .done (.ref j) [] | false=> .fail)
   | _=> .fail
 | _=> .fail
def d16 {U:Uni} (t:TypeId) (x y:U.AV):U.Q:=match x,y with
 | .ref id,.ref k=> .rdM id fun m=>match m with
   | .box t' (.st c [.ref _])=>(match b0e P t (.ref k:U.AV)&&e6z c with | true=> .done .undef [(id,.box t' (.st c [.ref k]))] | false=> .fail)
   | _=> .fail
 | _,_=> .fail
def d2a {U:Uni} (t:TypeId) (x y:U.AV):U.Q:=match x,y with
 | .ref id,.ref k=> .rdM k fun m=>match m with
   | .box _ a=>(match c6q a&& !(Nat.beq id k)&&b0e P t (.rp a:U.AV) with
     | true=> .rdM id fun m=>match m with
       | .box t' b0=>(match Nat.beq (asz b0) 1&&(a6c b0==false)&&a8j b0 with
         | true=> .done .undef [(id,.box t' (.rp a)),(k,.dead)]
         | false=> .fail)
       | _=> .fail
     | false=> .fail)
   | _=> .fail
 | _,_=> .fail
def f1o (t:TypeId):Bool:=match P.info? t with | some i=> !(Nat.beq i.size 0) | none=>false
def e0h {U:Uni} (s:TypeId) (f:Nat) (x:U.AV):U.Q:=match P.underlying s with
 | some (.struct fs)=>match fs[f]? with
   | some fl=>match x with
     | .rp (.val c y)=>match Nat.beq (off c f) fl.offset&&f1o P fl.type,(U.flds c y)[f]? with
       | true,some b=> .done (.rp b) []
       | _,_=> .fail
     | .ref id=> .rdM id fun m=>match m with
       | .box _ a=>match u9 a with
         | some c=>match Nat.beq (off c f) fl.offset&&f1o P fl.type&&decide (f<(U.lay c).length) with
           | true=> .done (.fref id c [.f f]) []
           | false=> .fail
         | none=> .fail
       | _=> .fail
     | _=> .fail
   | none=> .fail
 | _=> .fail
def b73 {U:Uni}:U.C -> List PE -> Option U.C
 | c,[]=>some c
 | c,.f n::p=>match (U.lay c)[n]? with | some (some c')=>b73 c' p | _=>none
 | c,.i _::p=>match U.isA c with | true=>b73 (U.ae c) p | false=>none
def d2l {U:Uni} (s:TypeId) (f:Nat) (id:Nat) (c:U.C) (p:List PE):U.Q:=match P.underlying s with
 | some (.struct fs)=>match fs[f]? with
   | some fl=>match (match p with | .i _::q=>b73 c q | _=>b73 c p) with
     | some c'=>match Nat.beq (off c' f) fl.offset&&f1o P fl.type&&decide (f<(U.lay c').length) with
       | true=> .done (.fref id c (p++[.f f])) []
       | false=> .fail
     | none=> .fail
   | none=> .fail
 | _=> .fail
def e8d {U:Uni} (s:TypeId) (f:Nat) (x:U.AV):U.Q:=match P.underlying s with
 | some (.struct fs)=>match fs[f]? with
   | some fl=>match x with
     | .val c y=>match (U.flds c y)[f]? with
       | some b=>match Nat.beq (off c f) fl.offset&&b0e P fl.type b with | true=> .done b [] | false=> .fail
       | none=> .fail
     | .st c as=>match as[f]? with
       | some b=>match Nat.beq (off c f) fl.offset&&b0e P fl.type b&&u7 b with | true=> .done b [] | false=> .fail
       | none=> .fail
     | _=> .fail
   | none=> .fail
 | _=> .fail
def a9p {U:Uni} (t:TypeId) (c:U.C):Bool:=match P.underlying t with
 | some (.slice e)=>d5f P e (U.n c)&&f1g P e (U.ag c)&&decide (0<U.n c)
 | _=>false
def c4c {U:Uni} (t:TypeId) (ca:U.C):Bool:=match P.underlying t with
 | some (.array n e)=>U.isA ca&&Nat.beq n (U.an ca)&&d5f P e (U.n (U.ae ca))
 | _=>false
def inAr (k:Nat) (n:Int):Option Unit:=if 0 <= n /\ n<(k:Int) then some () else none
def b9f {U:Uni} (t:TypeId) (x y:U.AV):U.Q:=match y with
 | .int .i64 n=>match x with
   | .list c l=>match a9p P t c with | true=> .opt (c8 l n) fun z=> .done (.rp (inj c z)) [] | false=> .fail
   | .ref id=> .rdM id fun m=>match m with
     | .sl _ c l=>match a9p P t c with | true=> .opt (c8 l n) fun _=> .done (.fref id c [.i n]) [] | false=> .fail
     | .fz c l=>match a9p P t c with | true=> .opt (c8 l n) fun z=> .done (.rp (inj c z)) [] | false=> .fail
     | .box _ (.val ca x)=>match c4c P t ca with | true=> .opt (c8 (U.al ca x) n) fun _=> .done (.fref id (U.ae ca) [.i n]) [] | false=> .fail
     | _=> .fail
   | .vw id c lo k=> .rdM id fun m=>match m with
     | .sl _ c' l=>match a9p P t c&&eqC c' c with | true=> .opt (c0h l lo n) fun _=> .done (.fref id c [.i (lo+n)]) [] | false=> .fail
     | _=> .fail
   | .rp (.val ca x)=>match c4c P t ca with | true=> .opt (c8 (U.al ca x) n) fun y=> .done (.rp (inj (U.ae ca) y)) [] | false=> .fail
   | .fref id c p=>match (match p with | []=>none | .i _::q=>b73 c q | .f k::q=>b73 c (.f k::q)) with
     | some ca=>match c4c P t ca with | true=> .opt (inAr (U.an ca) n) fun _=> .done (.fref id c (p++[.i n])) [] | false=> .fail
     | none=> .fail
   | _=> .fail
 | _=> .fail
def d7s {U:Uni} (t:TypeId) (x y:U.AV):U.Q:=match P.underlying t,x,y with
 | some .string,.str s,.int _ n=> .opt (b47 s n) fun c=> .done (.int .u8 c) []
 | some (.array m e),.val ca x,.int .i64 n=>match U.isA ca&&Nat.beq m (U.an ca)&&d5f P e (U.n (U.ae ca)) with
   | true=> .opt (c8 (U.al ca x) n) fun z=>match b0e P e (inj (U.ae ca) z) with | true=> .done (inj (U.ae ca) z) [] | false=> .fail
   | false=> .fail
 | _,_,_=> .fail
def f1i {U:Uni}:List U.AV -> List Nat -> List U.AV -> Option (List U.AV)
 | fs,[],_=>some fs
 | fs,i::is,a::as=>match fs[i]? with
   | some b=>match Nat.beq (asz a) (asz b)&&(a6c a==a6c b) with | true=>f1i (fs.set i a) is as | false=>none
   | none=>none
 | _,_,[]=>none
def c7l {U:Uni} (c:U.C) (fs:List Field):Bool:=Nat.beq fs.length (U.lay c).length&&(List.range fs.length).all fun i=>match fs[i]?,(U.lay c)[i]? with
 | some f,some o=>Nat.beq f.offset (off c i)&&d5f P f.type (osz o)
 | _,_=>false
def d8q {U:Uni} (t:TypeId) (is:List Nat) (as:List U.AV):U.Q:=match P.underlying t,U.cd t,b3o P t with
 | some (.struct fs),some c,some z=>match e33 z with
   | some (c',zs)=>match c7l P c' fs.toList with
     | true=>d0r as fun as ws=>match as.all u7,f1i zs is as with
       | true,some gs=>match f6e c' gs with | some y=> .done y ws | none=> .fail
       | _,_=> .fail
     | false=> .fail
   | none=> .fail
 | _,_,_=> .fail
def f4x (t:TypeId):Bool:=match P.underlying t with | some (.array _ _)=>true | _=>false
def d14 {U:Uni} (t:TypeId) (is:List Nat) (as:List U.AV):U.Q:=match b3o P t with
 | some (.val c z)=>match c4c P t c with
   | true=>d0r as fun as ws=>match as.all u7,f1i (U.flds c z) is as with
     | true,some gs=>match U.mkv c gs with | some y=> .done (.val c y) ws | none=> .fail
     | _,_=> .fail
   | false=> .fail
 | _=> .fail
def f6d {U:Uni} (c:U.C):List U.AV -> Option (List (U.T c))
 | []=>some []
 | a::r=>match prj c a with
   | some x=>match f6d c r with | some l=>some (x::l) | none=>none
   | none=>none
def c7g:Nat -> List Nat -> Bool
 | _,[]=>true
 | k,i::r=>Nat.beq i k&&c7g (k+1) r
def d06 (e n:Nat):Bool:=match P.info? e with
 | some i=>(match i.zero with | some z=>Nat.beq z.cells.size n&&Nat.beq i.size n&&decide (0<n)&&decide (0<i.bytes) | none=>false)
 | none=>false
def b75 {U:Uni} (fr:Nat) (t:TypeId) (len:Nat) (is:List Nat) (as:List U.AV):U.Q:=match P.underlying t with
 | some (.slice e)=>match U.cd e with
   | some c=>match c7g 0 is&&Nat.beq is.length len&&Nat.beq as.length len&&a9p P t c&&Nat.ble (len*U.n c) 16777216&&Nat.ble len 1000000&&d06 P e (U.n c) with
     | true=>d0r as fun as ws=>match as.all a8j,f6d c as with
       | true,some l=> .rdM fr fun
         | .never=> .done (.ref fr) ((fr,.sl e c l)::ws)
         | _=> .fail
       | _,_=> .fail
     | false=> .fail
   | none=> .fail
 | _=> .fail
def rdL {U:Uni} (c:U.C) (x:U.AV) (k:List (U.T c) -> U.Q):U.Q:=match x with
 | .list _ l=>match b44 c l with | some l=>k l | none=> .fail
 | .nils=>k []
 | .ref id=> .rdM id fun m=>match m with
   | .sl _ _ l=>match b44 c l with | some l=>k l | none=> .fail
   | .fz _ l=>match b44 c l with | some l=>k l | none=> .fail
   | _=> .fail
 | .va id c' p n=> .rdM id fun m=>match b5c c' m p with
   | true=>e6p m p fun b=>match b with
     | .val ca z=>(match U.isA ca&&Nat.beq n (U.an ca)&&Nat.ble n 1000000&&Nat.blt 0 (U.n c),b44 c (U.al ca z) with
       | true,some l=>k l
       | _,_=> .fail)
     | _=> .fail
   | false=> .fail
 | _=> .fail
def f0b (s t:TypeId):Bool:=match P.underlying s,P.underlying t with | some (.slice _),some .string=>true | _,_=>false
def f6z {U:Uni} (s:TypeId) (x:U.AV):U.Q:=match P.underlying s with
 | some (.slice e)=>match P.underlying e,U.cd e with
   | some (.int .u8),some c=>(match U.b8 c with | true=>rdL c x fun l=> .done (.str (b9o (l.map (U.t8 c)))) [] | false=> .fail)
   | _,_=> .fail
 | _=> .fail
def e3u (t:TypeId):Bool:=match P.underlying t with | some .string=>true | _=>false
def e39 (s:ByteArray) (p:Int):Option (Option Int):=if p<(s.size:Int) then some (if (s.get! p.toNat).toNat<128 then some ((s.get! p.toNat).toNat:Int) else none) else none
def e6i (t:TypeId):Bool:=match P.underlying t with | some (.map _ _)=>true | _=>false
def d9k {U:Uni} (fr:Nat) (t:TypeId) (x:U.AV):U.Q:=match x with
 | .str s=>match e3u P t with
   | true=> .rdM fr fun | .never=> .done (.ref fr) [(fr,.it s 0)] | _=> .fail
   | false=> .fail
 | .ref id=>match e6i P t with
   | true=> .rdM id fun | .mp []=> .done .mi [(id,.dead)] | _=> .fail
   | false=> .fail
 | _=> .fail
def e1h {U:Uni} (x:U.AV):U.Q:=match x with
 | .mi=> .done (.tup [.bool false]) []
 | _=> .fail
def e9t {U:Uni} (x:U.AV):U.Q:=match x with
 | .ref id=> .rdM id fun
   | .it s p=> .cas (e39 s p) (.done (.tup [.bool false]) [(id,.it s p)]) fun r=> .opt r fun c=> .done (.tup [.bool true,.int .i64 p,.int .i32 c]) [(id,.it s (p+1))]
   | _=> .fail
 | _=> .fail
def e6l {U:Uni}:U.AV -> Option Int | .int .i64 n=>some n | _=>none
def e9l (t:TypeId):Bool:=match P.underlying t with | some (.slice _)=>true | _=>false
def f7f {U:Uni} (t:TypeId) (x:U.AV):U.Q:=match x with
 | .list _ l=>match e9l P t with | true=> .done (.int .i64 (l.length:Int)) [] | false=> .fail
 | .nils=>match e9l P t with | true=> .done (.int .i64 0) [] | false=> .fail
 | .str s=>match e3u P t with | true=> .done (.int .i64 (s.size:Int)) [] | false=> .fail
 | .vw _ _ _ n=>match e9l P t with | true=> .done (.int .i64 (n:Int)) [] | false=> .fail
 | .ref id=>match e9l P t with
   | true=> .rdM id fun m=>match m with
     | .sl _ _ l=> .done (.int .i64 (l.length:Int)) []
     | .fz _ l=> .done (.int .i64 (l.length:Int)) []
     | _=> .fail
   | false=> .fail
 | _=> .fail
def f4a {U:Uni} (fr:Nat) (e:TypeId) (c:U.C) (k:List (Nat×U.MC)) (l:List (U.T c)) (x:U.AV):U.Q:=
 rdL c x fun xs=> .opt (a4t (c56 P e) l xs) fun r=> .rdM fr fun
  | .never=> .done (.ref fr) ((fr,.sl e c r)::k)
  | _=> .fail
def f7a {U:Uni} (fr:Nat) (t:TypeId) (s x:U.AV):U.Q:=match P.underlying t with
 | some (.slice e)=>match U.cd e with
   | some c=>match d06 P e (U.n c) with
     | true=>match s with
       | .nils=>f4a P fr e c [] [] x
       | .ref id=>match b5e id x with
         | true=> .fail
         | false=> .rdM id fun m=>match m with
           | .sl e' c' l=>match Nat.beq e e'&&eqC c' c,b44 c l with
             | true,some l=>f4a P fr e c [(id,.dead)] l x
             | _,_=> .fail
           | _=> .fail
       | _=> .fail
     | false=> .fail
   | none=> .fail
 | _=> .fail
def c0f (s:ByteArray) (a b:Int):Option ByteArray:=if 0 <= a /\ a <= b /\ b <= (s.size:Int) then some (s.extract a.toNat b.toNat) else none
def bnd {U:Uni} (x:Option Operand) (d:Int) (k:Int -> U.Q):U.Q:=match x with
 | none=>k d
 | some o=>rdO o fun a=>match e6l a with | some n=>k n | none=> .fail
def arrQ {U:Uni} (t:TypeId) (id:Nat) (c:U.C) (p:List PE) (lo hi:Option Operand):U.Q:=match lo,hi with
 | none,none=>match (match p with | []=>none | .i _::q=>b73 c q | .f k::q=>b73 c (.f k::q)) with
   | some ca=>match c4c P t ca with | true=> .done (.va id c p (U.an ca)) [] | false=> .fail
   | none=> .fail
 | _,_=> .fail
def e0p {U:Uni} (t:TypeId) (x:U.AV) (lo hi:Option Operand):U.Q:=match x with
 | .str s=>match P.underlying t with
   | some .string=>bnd lo 0 fun a=>bnd hi (s.size:Int) fun b=> .opt (c0f s a b) fun r=> .done (.str r) []
   | _=> .fail
 | .list c l=>match a9p P t c with
   | true=>bnd lo 0 fun a=>bnd hi (l.length:Int) fun b=> .opt (a0j l a b) fun r=> .done (.list c r) []
   | false=> .fail
 | .ref id=> .rdM id fun m=>match m with
   | .sl _ c l=>match a9p P t c with
     | true=>bnd lo 0 fun a=>bnd hi (l.length:Int) fun b=> .opt (a0j l a b) fun r=> .done (.list c r) [(id,.fz c l)]
     | false=> .fail
   | .fz c l=>match a9p P t c with
     | true=>bnd lo 0 fun a=>bnd hi (l.length:Int) fun b=> .opt (a0j l a b) fun r=> .done (.list c r) []
     | false=> .fail
   | _=> .fail
 | .fref id c p=>arrQ P t id c p lo hi
 | .rp (.val ca z)=>match lo,hi with
   | none,none=>(match c4c P t ca&&Nat.ble (U.an ca) 1000000 with | true=> .done (.list (U.ae ca) (U.al ca z)) [] | false=> .fail)
   | _,_=> .fail
 | _=> .fail
def c57 (t e:TypeId):Bool:=match P.underlying t with | some (.slice e')=>Nat.beq e e' | _=>false
def e8f {U:Uni} (t:TypeId) (x:U.AV) (lo hi:Option Operand):U.Q:=match x with
 | .ref id=> .rdM id fun m=>match m with
   | .sl e c l=>match a9p P t c&&c57 P t e with
     | true=>bnd lo 0 fun a=>match hi with
       | none=> .opt (a0j l a (l.length:Int)) fun r=> .done (.vw id c a r.length) []
       | some _=> .fail
     | false=> .fail
   | _=> .fail
 | _=> .fail
def f8p {U:Uni} (fr:Nat) (t:TypeId) (x:U.AV) (lo hi:Option Operand):U.Q:=match x with
 | .ref id=> .rdM id fun m=>match m with
   | .sl e c l=>match a9p P t c&&c57 P t e with
     | true=>bnd lo 0 fun a=>bnd hi (l.length:Int) fun b=> .opt (a0j l a b) fun r=> .rdM fr fun
       | .never=> .done (.ref fr) [(fr,.sl e c r),(id,.dead)]
       | _=> .fail
     | false=> .fail
   | _=> .fail
 | _=> .fail
def f2g {α:Type} (z:α) (l:List α) (lo:Int) (n:Nat):Option (List α):=if 0 <= lo /\ lo.toNat+n=l.length then some (b1p z l lo) else none
def e1y {U:Uni} (t:TypeId) (x:U.AV):U.Q:=match x with
 | .vw id c lo n=> .rdM id fun m=>match m with
   | .sl e c' l=>match c57 P t e&&d06 P e (U.n c),b44 c l,b3o P e with
     | true,some l,some a=>match prj c a with
       | some z=> .opt (f2g z l lo n) fun r=> .done .unk [(id,.sl e c r)]
       | none=> .fail
     | _,_,_=> .fail
   | _=> .fail
 | _=> .fail
def mkI {α:Type} (bytes:Nat) (z:α) (n m:Int):Option (List α):=if 0 <= n /\ m=n /\ (bytes:Int)*n <= 281474976710656 /\ n <= 9223372036854775807 then some (List.replicate n.toNat z) else none
def b8v {U:Uni} (fr:Nat) (t:TypeId) (x y:U.AV):U.Q:=match P.underlying t with
 | some (.slice e)=>match U.cd e,b3o P e,e6l x,e6l y with
   | some c,some a,some n,some m=>match d06 P e (U.n c),prj c a with
     | true,some z=> .opt (mkI (c56 P e) z n m) fun r=> .rdM fr fun
       | .never=> .done (.ref fr) [(fr,.sl e c r)]
       | _=> .fail
     | _,_=> .fail
   | _,_,_,_=> .fail
 | _=> .fail
def b8u {α:Type} (l:List α) (a b m:Int):Option (List α):=if b <= m /\ m <= (l.length:Int) then a0j l a b else none
def d1n {U:Uni} (t:TypeId) (x:U.AV) (lo:Option Operand) (hi mx:Operand):U.Q:=match x with
 | .list c l=>match a9p P t c with
   | true=>bnd lo 0 fun a=>bnd (some hi) 0 fun b=>bnd (some mx) 0 fun m=> .opt (b8u l a b m) fun r=> .done (.list c r) []
   | false=> .fail
 | .ref id=> .rdM id fun m=>match m with
   | .sl _ c l=>match a9p P t c with
     | true=>bnd lo 0 fun a=>bnd (some hi) 0 fun b=>bnd (some mx) 0 fun m=> .opt (b8u l a b m) fun r=> .done (.list c r) [(id,.fz c l)]
     | false=> .fail
   | .fz c l=>match a9p P t c with
     | true=>bnd lo 0 fun a=>bnd (some hi) 0 fun b=>bnd (some mx) 0 fun m=> .opt (b8u l a b m) fun r=> .done (.list c r) []
     | false=> .fail
   | _=> .fail
 | _=> .fail
def b1g:List (Int×Int) -> Int -> Option Int
 | [],_=>none
 | q::r,k=>if q.1=k then some q.2 else b1g r k
def a9f:List (Int×Int) -> Int -> Int -> List (Int×Int)
 | [],k,v=>[(k,v)]
 | q::r,k,v=>if q.1=k then (k,v)::r else q::a9f r k v
def b3x (l:List (Int×Int)) (k:Int):Int:=match b1g l k with | some v=>v | none=>0
def c38 (l:List (Int×Int)) (k:Int):Bool:=match b1g l k with | some _=>true | none=>false
def c4p (t:TypeId):Bool:=match P.underlying t with
 | some (.map k e)=>(match P.underlying k,P.info? e with
   | some (.int .i64),some i=>(match i.zero with | some (.int .i64 0)=>true | _=>false)
   | _,_=>false)
 | _=>false
def c6k {U:Uni} (fr:Nat):U.Q:= .rdM fr fun | .never=> .done (.ref fr) [(fr,.mp [])] | _=> .fail
def d29 {U:Uni} (t:TypeId) (x k:U.AV) (ok:Bool):U.Q:=match x,e6l k,c4p P t with
 | .ref id,some k,true=> .rdM id fun m=>match m with
   | .mp l=>match ok with
     | true=> .done (.tup [.int .i64 (b3x l k),.bool (c38 l k)]) []
     | false=> .done (.int .i64 (b3x l k)) []
   | _=> .fail
 | _,_,_=> .fail
def b97 {U:Uni} (t:TypeId) (x k y:U.AV):U.Q:=match x,e6l k,e6l y,c4p P t with
 | .ref id,some k,some v,true=> .rdM id fun m=>match m with
   | .mp l=> .done .unk [(id,.mp (a9f l k v))]
   | _=> .fail
 | _,_,_,_=> .fail
def c4h {U:Uni}:List (Nat×Nat) -> List U.AV -> List U.AV
 | [],l=>l
 | q::m,l=>(c4h m l).set q.1 .nils
def b3u {U:Uni}:List (Nat×Nat) -> List U.AV -> List U.AV
 | [],l=>l
 | q::m,l=>(b3u m l).set q.1 (.ref q.2)
def c0d {U:Uni} (fs:List U.AV) (f:Nat):Option Nat:=match fs[f]? with | some (.ref i)=>some i | _=>none
inductive PK (C:Type) where
 | v (c:C) | ls (c:C) | ow (e:TypeId) (c:C) | rp (t:TypeId) (c:C) | io (t:TypeId) (c:C)
 | im (t:TypeId) (c:C) (m:List (Nat×Nat)) | po (b f:Nat) (e:TypeId) (c:C) | cl (f:FuncId) (cs:List C)
 | so (e:TypeId) (c:C)
 | bn (f:FuncId) (c:C) | km (g:FuncId) (t:TypeId) | vl (g:FuncId) (t:TypeId) (c:C)
inductive RK (C:Type) where
 | v (c:C) | ls (c:C) | ow (e:TypeId) (c:C) | bo (t:TypeId) (c:C)
@[reducible] def CapT (U:Uni):List U.C -> Type
  | []=>Unit
  | c::cs=>U.T c×CapT U cs
@[reducible] def PK.T (U:Uni):PK U.C -> Type
  | .v c=>U.T c | .ls c=>List (U.T c) | .ow _ c=>List (U.T c) | .rp _ c=>U.T c | .io _ c=>U.T c | .im _ c _=>U.T c | .po _ _ _ c=>List (U.T c) | .cl _ cs=>CapT U cs | .so _ c=>List (U.T c) | .bn _ c=>U.T c | .km _ _=>List (Int×Int) | .vl _ _ c=>List (U.T c)
@[reducible] def RK.T (U:Uni):RK U.C -> Type
  | .v c=>U.T c | .ls c=>List (U.T c) | .ow _ c=>List (U.T c) | .bo _ c=>Option (U.T c)
@[reducible] def Args (U:Uni):List (PK U.C) -> Type
  | []=>Unit
  | p::ps=>p.T U×Args U ps
@[reducible] def Ress (U:Uni):List (RK U.C) -> Type
  | []=>Unit
  | p::ps=>p.T U×Ress U ps
@[reducible] def Outs (U:Uni):List (PK U.C) -> Type
  | []=>Unit
  | .io _ c::ps=>U.T c×Outs U ps
  | .im _ c _::ps=>U.T c×Outs U ps
  | .po _ _ _ c::ps=>List (U.T c)×Outs U ps
  | .so _ c::ps=>List (U.T c)×Outs U ps
  | _::ps=>Outs U ps
def npK {C:Type}:List (PK C) -> Nat
 | []=>0
 | .po _ _ _ _::ps=>npK ps
 | _::ps=>npK ps+1
def c6n {C:Type}:PK C -> Bool | .po _ _ _ _=>true | _=>false
def b6e {C:Type} (all:List (PK C)):Nat -> List (PK C) -> Bool
 | _,[]=>true
 | i,.im _ _ m::ps=>(m.all fun q=>match all[q.2]? with | some (.po b f _ _)=>Nat.beq b i&&Nat.beq f q.1 | _=>false)&&b6e all (i+1) ps
 | i,_::ps=>b6e all (i+1) ps
def f3o {C:Type} (ps:List (PK C)):Bool:=(ps.drop (npK ps)).all c6n
def b1c {C:Type} (ps:List (PK C)):Bool:=b6e ps 0 ps&&f3o ps
structure Sig (U:Uni) where
 ps:List (PK U.C)
 rs:List (RK U.C)
inductive Kc (U:Uni) where
 | seq (g:FuncId) (t:TypeId) (c:Option U.C)
 | qy (q:Nat -> List U.AV -> U.Q)
structure Fent (U:Uni) where
 s:Sig U
 B:Type
 F:Args U s.ps -> Option B
 wr:B -> Ress U s.rs×Outs U s.ps
 kc:Option (Kc U):=none
abbrev Phi (U:Uni):=FuncId -> List U.AV -> Option (Fent U)
def argL {U:Uni} (c:U.C) (a:U.AV) (k:List (U.T c) -> List (Nat×U.MC) -> U.Q):U.Q:=match a with
 | .list _ l=>match b44 c l with | some l=>k l [] | none=> .fail
 | .nils=>k [] []
 | .ref id=> .rdM id fun m=>match m with
   | .sl _ c' l'=>match b44 c l' with | some l=>k l [(id,.fz c' l')] | none=> .fail
   | .fz _ l=>match b44 c l with | some l=>k l [] | none=> .fail
   | _=> .fail
 | _=> .fail
def f5q {U:Uni} (c:U.C) (b:U.AV) (k:U.T c -> List (Nat×U.MC) -> U.Q):U.Q:=match b with
 | .st c' fs=>d0r fs fun as ws=>match U.mkv c' as with
   | some x=>(match cst c x with | some x=>k x ws | none=> .fail)
   | none=> .fail
 | b=>match prj c b with | some x=>k x [] | none=> .fail
def rpQ {U:Uni} (nf:Bool) (c:U.C) (a:U.AV) (k:U.T c -> List (Nat×U.MC) -> U.Q):U.Q:=match a with
 | .rp b=>match prj c b with | some x=>k x [] | none=> .fail
 | .ref id=>match nf with
   | true=> .fail
   | false=> .rdM id fun m=>match m with
     | .box t' b=>f5q c b fun x ws=>k x ((id,.dead)::ws)
     | _=> .fail
 | _=> .fail
def f6j {U:Uni} (nf:Bool):(cs:List U.C) -> List U.AV -> (CapT U cs -> List (Nat×U.MC) -> U.Q) -> U.Q
 | [],[],k=>k () []
 | c::cs,a::as,k=>rpQ nf c a fun x fz=>f6j nf cs as fun xs fzs=>k (x,xs) (fz++fzs)
 | _,_,_=> .fail
def f6v {U:Uni} (all fs:List U.AV) (m:List (Nat×Nat)):Bool:=m.all fun q=>match c0d fs q.1,all[q.2]? with
 | some i,some (.ref j)=>Nat.beq i j
 | _,_=>false
def d5b {U:Uni} (nf:Bool) (all:List U.AV) (p:PK U.C) (a:U.AV) (k:p.T U -> List Nat -> List (Nat×U.MC) -> U.Q):U.Q:=match p with
 | .v c=>match prj c a with | some x=>k x [] [] | none=> .fail
 | .ls c=>argL c a fun l fz=>k l [] fz
 | .ow e c=>match a with
   | .nils=>k [] [] []
   | .ref id=> .rdM id fun m=>match m with
     | .sl e' _ l=>match Nat.beq e e',b44 c l with | true,some l=>k l [id] [] | _,_=> .fail
     | _=> .fail
   | _=> .fail
 | .rp t c=>rpQ nf c a fun x fz=>k x [] fz
 | .cl f cs=>match a with
   | .clo f' as=>match Nat.beq f f' with
     | true=>f6j nf cs as fun x fz=>k x [] fz
     | false=> .fail
   | _=> .fail
 | .bn f c=>match a with
   | .bnd f' b=>match Nat.beq f f',prj c b with | true,some x=>k x [] [] | _,_=> .fail
   | _=> .fail
 | .km g t=>match nf,a with
   | false,.clo g' [.ref i]=> .rdM i fun m=>match m with
     | .box t' (.ref j)=> .rdM j fun m=>match m with
       | .mp l=>match Nat.beq g g'&&Nat.beq t t' with | true=>k l [] [(i,.dead),(j,.dead)] | false=> .fail
       | _=> .fail
     | _=> .fail
   | _,_=> .fail
 | .vl g t c=>match nf,a with
   | false,.clo g' [.ref i]=> .rdM i fun m=>match m with
     | .box t' b=>match Nat.beq g g'&&Nat.beq t t',b with
       | true,.list _ l=>(match b44 c l with | some l=>k l [] [(i,.dead)] | none=> .fail)
       | true,.nils=>k [] [] [(i,.dead)]
       | _,_=> .fail
     | _=> .fail
   | false,.vl g' t' _ l=>(match Nat.beq g g'&&Nat.beq t t',b44 c l with | true,some l=>k l [] [] | _,_=> .fail)
   | _,_=> .fail
 | .po _ _ e c=>match a with
   | .ref id=> .rdM id fun m=>match m with
     | .sl e' _ l=>match Nat.beq e e',b44 c l with | true,some l=>k l [id] [] | _,_=> .fail
     | _=> .fail
   | _=> .fail
 | .so e c=>match a with
   | .ref id=> .rdM id fun m=>match m with
     | .sl e' _ l=>match Nat.beq e e',b44 c l with | true,some l=>k l [id] [] | _,_=> .fail
     | _=> .fail
   | _=> .fail
 | .im t c mm=>match a with
   | .ref id=> .rdM id fun m=>match m with
     | .box t' (.st c' fs)=>match Nat.beq t t'&&eqC c c'&&f6v all fs mm,U.mkv c (c4h mm fs) with | true,some x=>k x [id] [] | _,_=> .fail
     | _=> .fail
   | _=> .fail
 | .io t c=>match a with
   | .ref id=> .rdM id fun m=>match m with
     | .box t' b=>(match Nat.beq t t' with | true=>f5q c b fun x ws=>k x [id] ws | false=> .fail)
     | _=> .fail
   | _=> .fail
def f0c {U:Uni} (nf:Bool) (all:List U.AV):(ps:List (PK U.C)) -> List U.AV -> (Args U ps -> List (List Nat) -> List (Nat×U.MC) -> U.Q) -> U.Q
 | [],[],k=>k () [] []
 | p::ps,a::as,k=>d5b nf all p a fun x i fz=>f0c nf all ps as fun xs is fzs=>k (x,xs) (i::is) (fz++fzs)
 | _,_,_=> .fail
def e77 {U:Uni}:List (PK U.C) -> List U.AV -> (List U.AV -> U.Q) -> U.Q
 | .im _ _ mm::ps,.ref id::as,k=> .rdM id fun m=>match m with
   | .box _ (.st _ fs)=>e77 ps as fun r=>k ((mm.filterMap fun q=>(c0d fs q.1).map AV.ref)++r)
   | _=> .fail
 | _::ps,_::as,k=>e77 ps as k
 | _,_,k=>k []
def b2s {U:Uni} (b:Nat):(k:Nat) -> (ps:List (PK U.C)) -> List (List Nat) -> Outs U ps -> List (Nat×U.MC)
 | k,.io t c::ps,i::is,(x,xs)=>(i.map fun id=>(id,.box t (inj c x)))++b2s b (k+1) ps is xs
 | k,.im t c m::ps,i::is,(x,xs)=>(i.map fun id=>(id,.box t (.st c (b3u (m.map fun q=>(q.1,b+q.2)) (U.flds c x)))))++b2s b (k+1) ps is xs
 | k,.po _ _ e c::ps,_::is,(x,xs)=>(b+k,.sl e c x)::b2s b (k+1) ps is xs
 | k,.so e c::ps,i::is,(x,xs)=>(i.map fun id=>(id,.sl e c x))++b2s b (k+1) ps is xs
 | k,.ow _ _::ps,_::is,xs=>b2s b (k+1) ps is xs
 | k,.v _::ps,_::is,xs=>b2s b (k+1) ps is xs
 | k,.ls _::ps,_::is,xs=>b2s b (k+1) ps is xs
 | k,.rp _ _::ps,_::is,xs=>b2s b (k+1) ps is xs
 | k,.cl _ _::ps,_::is,xs=>b2s b (k+1) ps is xs
 | k,.bn _ _::ps,_::is,xs=>b2s b (k+1) ps is xs
 | k,.km _ _::ps,_::is,xs=>b2s b (k+1) ps is xs
 | k,.vl _ _ _::ps,_::is,xs=>b2s b (k+1) ps is xs
 | _,_,_,_=>[]
def d1q {U:Uni}:(ps:List (PK U.C)) -> List (List Nat) -> List Nat
 | .ow _ _::ps,i::is=>i++d1q ps is
 | .po _ _ _ _::ps,i::is=>i++d1q ps is
 | _::ps,_::is=>d1q ps is
 | _,_=>[]
def c5d {U:Uni}:(fr:Nat) -> (rs:List (RK U.C)) -> Ress U rs -> List U.AV×List (Nat×U.MC)
 | _,[],_=>([],[])
 | fr,.v c::rs,(x,xs)=>let q:=c5d fr rs xs;(inj c x::q.1,q.2)
 | fr,.ls c::rs,(x,xs)=>let q:=c5d fr rs xs;(.list c x::q.1,q.2)
 | fr,.ow e c::rs,(x,xs)=>let q:=c5d (fr+1) rs xs;(.ref fr::q.1,(fr,.sl e c x)::q.2)
 | fr,.bo t c::rs,(some x,xs)=>let q:=c5d (fr+1) rs xs;(.ref fr::q.1,(fr,.box t (inj c x))::q.2)
 | fr,.bo t c::rs,(none,xs)=>let q:=c5d (fr+1) rs xs;(.nilp::q.1,(fr,.dead)::q.2)
def f0w {U:Uni}:(rs:List (RK U.C)) -> Ress U rs -> (Ress U rs -> U.Q) -> U.Q
 | [],_,k=>k ()
 | .v c::rs,(x,xs),k=>f0w rs xs fun ys=>k (x,ys)
 | .ls c::rs,(x,xs),k=>f0w rs xs fun ys=>k (x,ys)
 | .ow e c::rs,(x,xs),k=>f0w rs xs fun ys=>k (x,ys)
 | .bo t c::rs,(x,xs),k=> .cas x (f0w rs xs fun ys=>k (none,ys)) fun y=>f0w rs xs fun ys=>k (some y,ys)
def f5v {U:Uni}:List U.AV -> U.AV
 | [a]=>a
 | as=> .tup as
def b9x:List (List Nat) -> Bool
 | []=>true
 | i::is=>(i.all fun a=>is.all fun js=>js.all fun b=> !(Nat.beq a b))&&b9x is
def e1q {U:Uni}:RK U.C -> Bool
 | .v c=>U.flat c
 | .ls _=>false
 | .ow _ c=>U.flat c
 | .bo _ c=>U.flat c
def c30 {U:Uni}:PK U.C -> Bool
 | .io _ c=>U.flat c
 | .im _ c m=>U.flat c||(e6z c&&m.any fun q=>Nat.beq q.1 0)
 | .po _ _ _ c=>U.flat c
 | .so _ c=>U.flat c
 | _=>true
def Sig.nf {U:Uni} (s:Sig U):Bool:= !(s.rs.all e1q&&s.ps.all c30)
def f5r {U:Uni} (fr n:Nat) (ps:List (PK U.C)):List Nat:=(List.range ps.length).filterMap fun k=>match ps[k]? with
 | some p=>bif c6n p then some (fr+n+k) else none
 | none=>none
def f7r {U:Uni} (fr:Nat) (g:FuncId) (t:TypeId) (c:Option U.C) (as:List U.AV):U.Q:=match c,as with
 | none,[.ref id]=> .rdM id fun m=>match m with
   | .mp _=> .rdM fr fun | .never=> .done (.clo g [.ref fr]) [(fr,.box t (.ref id))] | _=> .fail
   | _=> .fail
 | some _,[.list c l]=> .rdM fr fun | .never=> .done (.clo g [.ref fr]) [(fr,.box t (.list c l))] | _=> .fail
 | some _,[.nils]=> .rdM fr fun | .never=> .done (.clo g [.ref fr]) [(fr,.box t .nils)] | _=> .fail
 | _,_=> .fail
def e45 {U:Uni} (Φ:Phi U) (fr:Nat) (f:FuncId) (as:List U.AV):U.Q:=match Φ f as with
 | some fe=>match fe.kc with
  | some (.seq g t c)=>f7r fr g t c as
  | some (.qy q)=>q fr as
  | none=>match b1c fe.s.ps&&Nat.beq as.length (npK fe.s.ps) with
   | true=>e77 fe.s.ps as fun ex=>f0c fe.s.nf (as++ex) fe.s.ps (as++ex) fun xs is fz=>match b9x (is++[fz.map (·.1)]) with
     | true=> .opt (fe.F xs) fun b=>f0w fe.s.rs (fe.wr b).1 fun r=>match c5d fr fe.s.rs r,b2s (fr+fe.s.rs.length) 0 fe.s.ps is (fe.wr b).2 with
       | (vs,ms),os=>f1p (ms.map (·.1)) (f1p (f5r fr fe.s.rs.length fe.s.ps) (.done (f5v vs) (ms++(os++(((d1q fe.s.ps is).map fun id=>(id,.dead))++match fe.s.nf with | true=>fz | false=>[])))))
     | false=> .fail
   | false=> .fail
 | none=> .fail
end
end Go.SX
namespace Go.SX
open Go Go.PL
section
variable (P:Program) {U:Uni} (Φ:Phi U)
def mmQ (mx:Bool) (a b:U.AV):U.Q:=match a,b with
 | .int .i64 a,.int .i64 b=>match mx with | true=> .done (.int .i64 (max a b)) [] | false=> .done (.int .i64 (min a b)) []
 | _,_=> .fail
def f4b (e x y:U.AV):U.Q:=match e,x,y with
 | .bool e,.bool x,.bool y=> .done (.bool (bif e then x else y)) []
 | _,_,_=> .fail
def f8f (a:U.AV):U.Q:=match a with
 | .ref id=> .rdM id fun | .box t a=> .done (.ref id) [] | _=> .fail
 | .rp a=> .done (.rp a) []
 | .fref id c p=> .done (.fref id c p) []
 | _=> .fail
def opQ (fr:Nat):Op -> U.Q
 | .move x=>rdO x fun a=> .done a []
 | .assign x=>rdO x fun a=> .done a []
 | .pick c a b=>rdO c fun e=>rdO a fun x=>rdO b fun y=>f4b e x y
 | .binOp op t x y _=>rdO x fun a=>rdO y fun b=>match a6c a&&a6c b with | true=>f8k P op t a b | false=>f7v P op t a b
 | .unOp op _ x=>rdO x fun a=>unQ op a
 | .convert s t x=>rdO x fun a=>match f0b P s t with | true=>f6z P s a | false=>e9h P s t a
 | .alloc t=>match b3o P t with
   | some a=>match b0e P t a with | true=>f3p P fr t a | false=> .fail
   | none=> .fail
 | .box t x=>rdO x fun a=>match b0e P t a with | true=>f3p P fr t a | false=> .fail
 | .load t x=>rdO x fun a=>f4d P t a
 | .store t x y=>rdO x fun a=>rdO y fun b=>d9h P fr t a b
 | .fieldAddr s x f=>rdO x fun
   | .fref id c p=>d2l P s f id c p
   | a=>e0h P s f a
 | .field s x f=>rdO x fun a=>e8d P s f a
 | .indexAddr t x y=>rdO x fun a=>rdO y fun b=>b9f P t a b
 | .index t x y=>rdO x fun a=>rdO y fun b=>d7s P t a b
 | .build t ps=>e7s (ps.toList.map (·.2)) fun as=>match f4x P t with | true=>d14 P t (ps.toList.map (·.1)) as | false=>d8q P t (ps.toList.map (·.1)) as
 | .buildSlice t n ps=>e7s (ps.toList.map (·.2)) fun as=>b75 P fr t n (ps.toList.map (·.1)) as
 | .slice t x lo hi none=>rdO x fun a=>e0p P t a lo hi
 | .slice t x lo (some hi) (some mx)=>rdO x fun a=>d1n P t a lo hi mx
 | .makeSlice t n m=>rdO n fun a=>rdO m fun b=>b8v P fr t a b
 | .makeMap t none=>c6k fr
 | .lookup t x k ok=>rdO x fun a=>rdO k fun b=>d29 P t a b ok
 | .mapUpdate t x k y=>rdO x fun a=>rdO k fun b=>rdO y fun c=>b97 P t a b c
 | .extract x i=>rdO x fun
   | .tup as=>match as[i]? with | some a=> .done a [] | none=> .fail
   | _=> .fail
 | .range t x=>rdO x fun a=>d9k P fr t a
 | .next x true=>rdO x e9t
 | .next x false=>rdO x e1h
 | .nilCheck x=>rdO x f8f
 | .makeInterface t x=>rdO x fun a=>match P.underlying t,a with | some (.slice _),.ref id=> .done (.ifc t (.ref id)) [] | _,_=> .fail
 | .makeFunc fn first cs=>match fn,first.toList with
   | .func f,[]=>e7s cs.toList fun as=>match as.all b5i with | true=> .done (.clo f as) [] | false=> .fail
   | .func f,[x]=>match cs.toList with
     | []=>rdO x fun a=>match a with | .val c y=> .done (.bnd f (.val c y)) [] | _=> .fail
     | _=> .fail
   | _,_=> .fail
 | .call ⟨.value x,args,_⟩=>rdO x fun
   | .clo f cs=>e7s args.toList fun as=>e45 Φ fr f (as++cs)
   | .bnd f (.val c y)=>e7s args.toList fun as=>e45 Φ fr f (.val c y::as)
   | _=> .fail
 | .call ⟨.builtin .len,args,tys⟩=>match args.toList,tys.toList with
   | [x],[t]=>rdO x fun a=>f7f P t a
   | _,_=> .fail
 | .call ⟨.builtin .clear,args,tys⟩=>match args.toList,tys.toList with
   | [x],[t]=>rdO x fun a=>e1y P t a
   | _,_=> .fail
 | .call ⟨.builtin .append,args,tys⟩=>match args.toList,tys.toList with
   | [x,y],[t,t']=>match Nat.beq t t' with
     | true=>rdO x fun a=>rdO y fun b=>f7a P fr t a b
     | false=> .fail
   | _,_=> .fail
 | .call ⟨.builtin .max,args,_⟩=>match args.toList with
   | [x,y]=>rdO x fun a=>rdO y fun b=>mmQ true a b
   | _=> .fail
 | .call ⟨.builtin .min,args,_⟩=>match args.toList with
   | [x,y]=>rdO x fun a=>rdO y fun b=>mmQ false a b
   | _=> .fail
 | _=> .fail
def opX (sp:List Nat) (i fr:Nat) (op:Op):U.Q:=match sp with
 | []=>opQ P Φ fr op
 | _::_=>match op with
   | .slice t x lo hi none=>match sp.any (Nat.beq (1000+i)),sp.any (Nat.beq (2000+i)) with
     | true,_=>rdO x fun a=>e8f P t a lo hi
     | false,true=>rdO x fun a=>f8p P fr t a lo hi
     | false,false=>opQ P Φ fr (.slice t x lo hi none)
   | .store t x y=>match sp.any (Nat.beq (3000+i)) with
     | true=>rdO x fun a=>rdO y fun b=>d1l P fr t a b
     | false=>match sp.any (Nat.beq (6000+i)) with
       | true=>rdO x fun a=>rdO y fun b=>d16 P t a b
       | false=>match sp.any (Nat.beq (7000+i)) with
         | true=>rdO x fun a=>rdO y fun b=>d2a P t a b
         | false=>opQ P Φ fr (.store t x y)
   | .load t x=>match sp.any (Nat.beq (4000+i)) with
     | true=>rdO x fun a=>e0i P t a
     | false=>match sp.any (Nat.beq (6000+i)) with
       | true=>rdO x fun a=>d8d P t a
       | false=>opQ P Φ fr (.load t x)
   | .alloc t=>match sp.any (Nat.beq (6000+i)) with
     | true=>d24 P fr t
     | false=>opQ P Φ fr (.alloc t)
   | .box t x=>match sp.any (Nat.beq (6000+i)) with
     | true=>rdO x fun a=>f0n P fr t a
     | false=>opQ P Φ fr (.box t x)
   | op=>opQ P Φ fr op
def b99 (ops:List Oper) (g:Nat):Option Tmp:=match ops[g]? with | some o=>o.dst | none=>none
def gq (ops:List Oper) (o:Oper) (q:U.Q):U.Q:=match o.guard with
 | none=>q
 | some (g,want)=>match b99 ops g with
   | some t=> .rdT t fun
     | .bool b=>match b==want with | true=>q | false=> .done .undef []
     | .undef=> .done .undef []
     | _=> .fail
   | none=> .fail
def e3i (o:Oper):List Nat:=o.op.operands.toList.filterMap fun | .tmp t=>some t | _=>none
def bits (l:List Nat):Nat:=l.foldl (fun m k=>m ||| 2^k) 0
def f4l (b:Nat):Nat:=(2^(2*b)-1)/3*2
def f2t (o:Oper):Nat:=match o.dst with | some d=>2^(2*d) | none=>0
def b6g (o:Oper) (ws:List (Nat×U.MC)):Nat:=ws.foldl (fun m w=>m ||| 2^(2*w.1+1)) (f2t o)
def b4d (ops:List Oper) (o:Oper) (b:Nat):Nat:=bits ((e3i o).map (2* ·)) ||| f4l b ||| (match o.guard with | some (g,_)=>(match b99 ops g with | some t=>2^(2*t) | none=>0) | none=>0)
def d27 (bef:Nat) (r w:Nat) (hist:List (Nat×Nat×Nat)):Bool:=hist.all fun h=>bef.testBit h.1||(Nat.beq (w &&& (h.2.1 ||| h.2.2)) 0&&Nat.beq (h.2.2 &&& r) 0)
def d8w:List Nat -> List Oper -> List Nat
 | acc,[]=>acc
 | acc,o::r=>match o.after.toList.foldl (fun s e=>bif Region.binds .any e then s ||| 2^e.on ||| acc.getD e.on 0 else s) 0 with
   | 0=>d8w (acc++[0]) r
   | m+1=>d8w (acc++[m+1]) r
def f1n (ops:List Oper):List Nat:=d8w [] ops
theorem d47: ∀(ops:List Oper) (acc:List Nat),d8w acc ops=ops.foldl (fun acc o=>acc++[o.after.toList.foldl (fun s e=>bif Region.binds .any e then s ||| 2^e.on ||| acc.getD e.on 0 else s) 0]) acc
 | [],_=>rfl
 | o::r,acc=>by
   rw [List.foldl_cons,<- d47 r,d8w]
   split<;>rename_i h<;>rw [h]
def b4z (σ:U.St) (x:Operand):Option Bool:=match x with
 | .const (.bool b)=>some b
 | .tmp t=>match σ.slot t with | .bool b=>some b | _=>none
 | _=>none
def b6h (g:Nat) (want:Bool) (i:Nat) (q:Nat×Oper):Bool:=match q.2.guard with
 | some (g',w')=>(Nat.beq g' g&&(w'==want))||(Nat.ble i g'&&Nat.blt g' q.1)
 | none=>false
def hasG (ctx:List (Nat×Bool)) (g:Nat) (want:Bool):Bool:=ctx.any fun c=>Nat.beq c.1 g&&(c.2==want)
def okG (ctx:List (Nat×Bool)) (o:Oper):Bool:=match o.guard with | none=>true | some (g,w)=>hasG ctx g w
def b1d (σ:U.St) (l:List (Nat×Oper)):U.St:=l.foldl (fun σ q=>σ.put q.2.dst .unk) σ
structure RegC where
 base:Nat
 ops:List Oper
 bef:List Nat
 draw:Bool
 lim:Nat
 sp:List Nat
def c44 (C:RegC) (l:List (Nat×Oper)):List (Nat×Nat×Nat):=l.map fun q=>(q.1,b4d C.ops q.2 C.lim,f2t q.2)
def b2u (C:RegC):List (Nat×Nat×Nat) -> List (Nat×Nat×Nat) -> Bool
 | [],_=>true
 | e::es,hist=>d27 (C.bef.getD e.1 0) e.2.1 e.2.2 hist&&b2u C es (e::hist)
def c6d (C:RegC) (ctx:List (Nat×Bool)) (d:Option Tmp):Bool:=match d with
 | some d=>ctx.all fun c=>match b99 C.ops c.1 with | some t=> !(Nat.beq t d) | none=>false
 | none=>true
def f7c (m s:Nat):Bool:=Nat.beq (m ||| s) s
def e5x (t:Tmp) (l:List (Nat×Oper)):Bool:=l.all fun q=>match q.2.dst with | some d=> !(Nat.beq d t) | none=>false
def c8e (q:Nat×Oper):Option (Tmp×Tmp×Operand×Operand):=match q.2.dst,q.2.op with
 | some d,.pick (.tmp t) x y=>some (d,t,x,y)
 | _,_=>none
def d90:Op -> U.Q
 | .pick c a b=>rdO c fun x=>match x with
   | .bool e=>(match e with | true=>rdO a fun x=> .done x [] | false=>rdO b fun y=> .done y [])
   | _=> .fail
 | _=> .fail
def spG (C:RegC) (o:Oper):Bool:=(match o.guard with | some (g,_)=>C.sp.any (Nat.beq g) | none=>false)||(match o.op with
 | .pick (.tmp t) _ _=>C.sp.any fun g=>match b99 C.ops g with | some t'=>Nat.beq t t' | none=>false
 | _=>false)
def e6a:Op -> Bool | .pick _ _ _=>true | _=>false
def e72 {R:Type} (σ:U.St) (d:Option Tmp) (k:U.St -> Option R):Option R:=match d with
 | some t=>match σ.slot t with
   | .bool e=>if e=true then k (σ.put (some t) (.bool true)) else k (σ.put (some t) (.bool false))
   | .undef=>k σ
   | _=>none
 | none=>none
def b22 (C:RegC) {R:Type}:Nat -> List (Nat×Oper) -> List (Nat×Bool) -> List (Nat×Nat×Nat) -> U.St -> (List (Nat×Nat×Nat) -> U.St -> Option R) -> Option R
 | 0,_,_,_,_,_=>none
 | _+1,[],_,hist,σ,K=>K hist σ
 | n+1,(i,o)::rest,ctx,hist,σ,K=>
   match (spG C o||C.sp.any (Nat.beq i))&&ctx.isEmpty with
   | true=>(gq C.ops o (match e6a o.op with | true=>d90 o.op | false=>opX P Φ C.sp i (C.base+16*i) o.op)).eval σ 0 fun m v ws=>match !C.draw||d27 (C.bef.getD i 0) m (b6g o ws) hist with
     | true=>match C.sp.any (Nat.beq i) with
       | true=>e72 (σ.app o.dst v ws) o.dst fun σ'=>b22 C n rest [] ((i,m,b6g o ws)::hist) σ' K
       | false=>b22 C n rest [] ((i,m,b6g o ws)::hist) (σ.app o.dst v ws) K
     | false=>none
   | false=>match okG ctx o with
   | true=>(opX P Φ C.sp i (C.base+16*i) o.op).eval σ 0 fun m v ws=>match ctx with
     | []=>match !C.draw||d27 (C.bef.getD i 0) m (b6g o ws) hist with
       | true=>b22 C n rest [] ((i,m,b6g o ws)::hist) (σ.app o.dst v ws) K
       | false=>none
     | c::ctx=>match ws with
       | []=>match c6d C (c::ctx) o.dst&&f7c m (b4d C.ops o C.lim) with
         | true=>b22 C n rest (c::ctx) hist (σ.app o.dst v []) K
         | false=>none
       | _::_=>none
   | false=>match o.guard with
     | none=>none
     | some (g,want)=>match b99 C.ops g with
       | none=>none
       | some t=>match σ.slot t with
         | .bool e=>match ((i,o)::rest).dropWhile (b6h g want i) with
           | []=>none
           | p::rest'=>match c8e p with
             | none=>none
             | some (d,t',x,y)=>match Nat.beq t' t&&okG ctx p.2&&c6d C ctx (some d)&&e5x t (((i,o)::rest).takeWhile (b6h g want i))&&((((i,o)::rest).takeWhile (b6h g want i)).all fun q=>c6d C ctx q.2.dst) with
               | false=>none
               | true=>Option.bind (match want with
                 | true=>if e=true then b22 C n (((i,o)::rest).takeWhile (b6h g want i)) ((g,true)::ctx) hist σ fun _ σ'=>b4z σ' x else b4z (b1d σ (((i,o)::rest).takeWhile (b6h g want i))) y
                 | false=>if e=true then b4z (b1d σ (((i,o)::rest).takeWhile (b6h g want i))) x else b22 C n (((i,o)::rest).takeWhile (b6h g want i)) ((g,false)::ctx) hist σ fun _ σ'=>b4z σ' y) fun c=>
                 match ctx with
                 | []=>match !C.draw||b2u C (c44 C (((i,o)::rest).takeWhile (b6h g want i)++[p])) hist with
                   | true=>b22 C n rest' [] ((c44 C (((i,o)::rest).takeWhile (b6h g want i)++[p])).reverse++hist) ((b1d σ (((i,o)::rest).takeWhile (b6h g want i))).put (some d) (.bool c)) K
                   | false=>none
                 | c'::ctx=>b22 C n rest' (c'::ctx) hist ((b1d σ (((i,o)::rest).takeWhile (b6h g want i))).put (some d) (.bool c)) K
         | _=>none
def b0f (k:Nat):List Oper -> List (Nat×Oper)
 | []=>[]
 | o::r=>(k,o)::b0f (k+1) r
def befD (ops:List Oper) (draw:Bool):List Nat:=match draw with | true=>f1n ops | false=>[]
def c9v (sp:List Nat) (ops:List Oper) (draw:Bool) {R:Type} (σ:U.St) (K:U.St -> Option R):Option R:=
 let n:=ops.length
 b22 P Φ ⟨σ.nx,ops,befD ops draw,draw,σ.nx+16*n,sp⟩ (n+1) (b0f 0 ops) [] [] σ fun _ σ'=>K ⟨σ'.sl,σ'.me,σ.nx+16*n⟩
def e2s {U:Uni}:(cs:List U.C) -> CapT U cs -> List U.AV
 | [],_=>[]
 | _::cs,(x,xs)=> .rp (inj _ x)::e2s cs xs
def f6a {U:Uni}:(cs:List U.C) -> List U.AV -> Option (CapT U cs)
 | [],[]=>some ()
 | c::cs,.rp a::as=>(match prj c a with | some x=>(match f6a cs as with | some xs=>some (x,xs) | none=>none) | none=>none)
 | _,_=>none
inductive EK (C:Type) where
 | v (t:Nat) (c:C)
 | ls (t:Nat) (c:C)
 | ow (t:Nat) (id:Nat) (e:TypeId) (c:C)
 | bx (t:Nat) (id:Nat) (ty:TypeId) (c:C)
 | rp (t:Nat) (c:C)
 | of (t f:Nat) (id:Nat) (e:TypeId) (c:C)
 | bm (t:Nat) (id:Nat) (ty:TypeId) (c:C) (m:List (Nat×Nat))
 | it (t:Nat) (id:Nat)
 | cl (t:Nat) (f:FuncId) (cs:List C)
 | vw (t:Nat) (id:Nat) (c:C)
 | mp (t:Nat) (id:Nat)
 | cr (t:Nat) (f:FuncId) (is:List Nat)
@[reducible] def EK.T (U:Uni):EK U.C -> Type
  | .v _ c=>U.T c | .ls _ c=>List (U.T c) | .ow _ _ _ c=>List (U.T c) | .bx _ _ _ c=>U.T c | .rp _ c=>U.T c | .of _ _ _ _ c=>List (U.T c) | .bm _ _ _ c _=>U.T c | .it _ _=>ByteArray×Int | .cl _ _ cs=>CapT U cs | .vw _ _ _=>Int×Nat | .mp _ _=>List (Int×Int) | .cr _ _ _=>Unit
@[reducible] def Keep (U:Uni):List (EK U.C) -> Type
  | []=>Unit
  | [p]=>p.T U
  | p::q::ps=>p.T U×Keep U (q::ps)
def f0q {U:Uni} {p:EK U.C}:(es:List (EK U.C)) -> p.T U -> Keep U es -> Keep U (p::es)
 | [],x,_=>x
 | _::_,x,xs=>(x,xs)
def a8f {U:Uni} {p:EK U.C}:(es:List (EK U.C)) -> Keep U (p::es) -> p.T U
 | [],x=>x
 | _::_,s=>s.1
def a5g {U:Uni} {p:EK U.C}:(es:List (EK U.C)) -> Keep U (p::es) -> Keep U es
 | [],_=>()
 | _::_,s=>s.2
def d0t {U:Uni} {p:EK U.C} (es:List (EK U.C)) (x:Option (p.T U)) (y:Option (Keep U es)):Option (Keep U (p::es)):=match x with
 | some a=>(match y with | some b=>some (f0q es a b) | none=>none)
 | none=>none
def f0x {U:Uni} (c:U.C) (a:U.AV):Option (List (U.T c)):=match a with
 | .list _ l=>b44 c l
 | .nils=>some []
 | _=>none
def f04 {U:Uni} (σ:U.St) (c:U.C) (a:U.AV):Option (List (U.T c)):=match a with
 | .ref id=>(match σ.mem id with | .fz _ l=>b44 c l | _=>none)
 | a=>f0x c a
def alOK {U:Uni} (ren:List (Nat×Nat)) (σ:U.St) (al:List (Nat×Nat)):Bool:=al.all fun a=>match σ.slot a.1 with
 | .ref id'=>ren.any fun q=>Nat.beq q.1 id'&&Nat.beq q.2 a.2
 | _=>false
def f2l {U:Uni} (ren:List (Nat×Nat)) (fs:List U.AV) (m:List (Nat×Nat)):Bool:=m.all fun q=>match c0d fs q.1 with
 | some i=>ren.any fun r=>Nat.beq r.1 i&&Nat.beq r.2 q.2
 | none=>false
def e8j {U:Uni} (σ:U.St) (a:U.AV):U.AV:=match a with
 | .ref id=>(match σ.mem id with | .fz c l=> .list c l | _=> .ref id)
 | a=>a
def stF {U:Uni} (σ:U.St) (a:U.AV):U.AV:=match a with
 | .st c fs=> .st c (fs.map (e8j σ))
 | a=>a
def e6o {U:Uni} (σ:U.St):List U.AV -> List (Nat×U.MC)
 | []=>[]
 | .ref id::r=>(match σ.mem id with | .sl _ c l=>(id,.fz c l)::e6o σ r | _=>e6o σ r)
 | _::r=>e6o σ r
def d2x {U:Uni} (ren:List (Nat×Nat)):List U.AV -> List Nat -> Bool
 | [],[]=>true
 | .ref j::as,i::is=>(ren.any fun q=>Nat.beq q.1 j&&Nat.beq q.2 i)&&d2x ren as is
 | _,_=>false
def b8t {U:Uni} (pins:List Nat) (al:List (Nat×Nat)):(es:List (EK U.C)) -> (ren:List (Nat×Nat)) -> U.St -> Option (Keep U es)
 | [],ren,σ=>match (pins.all fun i=>ren.any fun q=>Nat.beq q.1 i&&Nat.beq q.2 i)&&alOK ren σ al with
   | true=>some ()
   | false=>none
 | .v t c::es,ren,σ=>d0t es (prj c (σ.slot t)) (b8t pins al es ren σ)
 | .ls t c::es,ren,σ=>d0t es (f04 σ c (σ.slot t)) (b8t pins al es ren σ)
 | .ow t id e c::es,ren,σ=>match σ.slot t with
   | .nils=>d0t es (some []) (b8t pins al es ren σ)
   | .ref id'=>(match (ren.any fun q=>Nat.beq q.1 id'),σ.mem id' with
     | false,.sl e' _ l=>(match Nat.beq e e' with
       | true=>d0t es (b44 c l) (b8t pins al es ((id',id)::ren) σ)
       | false=>none)
     | _,_=>none)
   | _=>none
 | .bx t id ty c::es,ren,σ=>match σ.slot t with
   | .ref id'=>(match (ren.any fun q=>Nat.beq q.1 id'),σ.mem id' with
     | false,.box ty' b=>(match Nat.beq ty ty' with
       | true=>d0t es (prj c (stF σ b)) (b8t pins al es ((id',id)::ren) σ)
       | false=>none)
     | _,_=>none)
   | _=>none
 | .rp t c::es,ren,σ=>match σ.slot t with
   | .rp b=>d0t es (prj c b) (b8t pins al es ren σ)
   | _=>none
 | .of t f id e c::es,ren,σ=>match σ.slot t with
   | .ref b=>(match σ.mem b with
     | .box _ (.st _ fs)=>(match c0d fs f with
       | some id'=>(match (ren.any fun q=>Nat.beq q.1 id'),σ.mem id' with
         | false,.sl e' _ l=>(match Nat.beq e e' with
           | true=>d0t es (b44 c l) (b8t pins al es ((id',id)::ren) σ)
           | false=>none)
         | _,_=>none)
       | none=>none)
     | _=>none)
   | _=>none
 | .bm t id ty c m::es,ren,σ=>match σ.slot t with
   | .ref id'=>(match (ren.any fun q=>Nat.beq q.1 id'),σ.mem id' with
     | false,.box ty' (.st c' fs)=>(match Nat.beq ty ty'&&eqC c c'&&f2l ren fs m with
       | true=>d0t es (U.mkv c (c4h m fs)) (b8t pins al es ((id',id)::ren) σ)
       | false=>none)
     | _,_=>none)
   | _=>none
 | .it t id::es,ren,σ=>match σ.slot t with
   | .ref id'=>(match (ren.any fun q=>Nat.beq q.1 id'),σ.mem id' with
     | false,.it s p=>d0t es (some (s,p)) (b8t pins al es ((id',id)::ren) σ)
     | _,_=>none)
   | _=>none
 | .mp t id::es,ren,σ=>match σ.slot t with
   | .ref id'=>(match (ren.any fun q=>Nat.beq q.1 id'),σ.mem id' with
     | false,.mp l=>d0t es (some l) (b8t pins al es ((id',id)::ren) σ)
     | _,_=>none)
   | _=>none
 | .cl t f cs::es,ren,σ=>match σ.slot t with
   | .clo f' as=>(match Nat.beq f f' with
     | true=>d0t es (f6a cs as) (b8t pins al es ren σ)
     | false=>none)
   | _=>none
 | .vw t id c::es,ren,σ=>match σ.slot t with
   | .vw id' c' lo n=>(match (ren.any fun q=>Nat.beq q.1 id'&&Nat.beq q.2 id)&&eqC c c' with
     | true=>d0t es (some (lo,n)) (b8t pins al es ren σ)
     | false=>none)
   | _=>none
 | .cr t f is::es,ren,σ=>match σ.slot t with
   | .clo f' as=>(match Nat.beq f f'&&d2x ren as is with
     | true=>d0t es (some ()) (b8t pins al es ren σ)
     | false=>none)
   | _=>none
def b0j {C:Type}:List (EK C) -> List Nat
 | .ow _ id _ _::es=>id::b0j es
 | .bx _ id _ _::es=>id::b0j es
 | .of _ _ id _ _::es=>id::b0j es
 | .bm _ id _ _ _::es=>id::b0j es
 | .it _ id::es=>id::b0j es
 | .mp _ id::es=>id::b0j es
 | _::es=>b0j es
 | []=>[]
def b9k:List Nat -> Bool
 | []=>true
 | i::is=> !(is.any (Nat.beq i))&&b9k is
def d7n {U:Uni} (σ:U.St):List (EK U.C) -> List (Nat×U.MC)
 | []=>[]
 | .ls t _::es=>(match σ.slot t with
   | .ref id=>(match σ.mem id with
     | .sl _ c l=>(id,.fz c l)::d7n σ es
     | _=>d7n σ es)
   | _=>d7n σ es)
 | .bx t _ _ _::es=>(match σ.slot t with
   | .ref id=>(match σ.mem id with
     | .box _ (.st _ fs)=>e6o σ fs++d7n σ es
     | _=>d7n σ es)
   | _=>d7n σ es)
 | _::es=>d7n σ es
def d0m {U:Uni} (pins:List Nat) (al:List (Nat×Nat)) (es:List (EK U.C)) (σ:U.St):Option (Keep U es):=match b9k (b0j es) with
 | true=>b8t pins al es [] (σ.app none .unk (d7n σ es))
 | false=>none
def b2d {U:Uni} (al:List (Nat×Nat)):(es:List (EK U.C)) -> Keep U es -> U.St
 | [],_=>⟨al.map fun a=>(a.1,.ref a.2),[],al.foldl (fun m a=>max m (a.2+1)) 0⟩
 | .v t c::es,s=>let σ:=b2d al es (a5g es s);⟨(t,inj c (a8f es s))::σ.sl,σ.me,σ.nx⟩
 | .ls t c::es,s=>let σ:=b2d al es (a5g es s);⟨(t,.list c (a8f es s))::σ.sl,σ.me,σ.nx⟩
 | .ow t id e c::es,s=>let σ:=b2d al es (a5g es s);⟨(t,.ref id)::σ.sl,(id,.sl e c (a8f es s))::σ.me,max (id+1) σ.nx⟩
 | .bx t id ty c::es,s=>let σ:=b2d al es (a5g es s);⟨(t,.ref id)::σ.sl,(id,.box ty (inj c (a8f es s)))::σ.me,max (id+1) σ.nx⟩
 | .rp t c::es,s=>let σ:=b2d al es (a5g es s);⟨(t,.rp (inj c (a8f es s)))::σ.sl,σ.me,σ.nx⟩
 | .of t f id e c::es,s=>let σ:=b2d al es (a5g es s);⟨σ.sl,(id,.sl e c (a8f es s))::σ.me,max (id+1) σ.nx⟩
 | .bm t id ty c m::es,s=>let σ:=b2d al es (a5g es s);⟨(t,.ref id)::σ.sl,(id,.box ty (.st c (b3u m (U.flds c (a8f es s)))))::σ.me,max (id+1) σ.nx⟩
 | .it t id::es,s=>let σ:=b2d al es (a5g es s);⟨(t,.ref id)::σ.sl,(id,.it (a8f es s).1 (a8f es s).2)::σ.me,max (id+1) σ.nx⟩
 | .mp t id::es,s=>let σ:=b2d al es (a5g es s);⟨(t,.ref id)::σ.sl,(id,.mp (a8f es s))::σ.me,max (id+1) σ.nx⟩
 | .cl t f cs::es,s=>let σ:=b2d al es (a5g es s);⟨(t,.clo f (e2s cs (a8f es s)))::σ.sl,σ.me,σ.nx⟩
 | .vw t id c::es,s=>let σ:=b2d al es (a5g es s);⟨(t,.vw id c (a8f es s).1 (a8f es s).2)::σ.sl,σ.me,σ.nx⟩
 | .cr t f is::es,s=>let σ:=b2d al es (a5g es s);⟨(t,.clo f (is.map .ref))::σ.sl,σ.me,σ.nx⟩
def isRp {U:Uni}:U.AV -> Bool | .rp _=>true | _=>false
def d28 {U:Uni}:U.AV -> Bool
 | .bool _ | .int _ _ | .str _ | .val _ _ | .list _ _ | .nils | .nilp | .undef | .rp _=>true
 | .clo _ as=>as.all isRp
 | .bnd _ (.val _ _)=>true
 | _=>false
def e2p {U:Uni} (σ:U.St):List Nat -> List (Nat×U.AV)
 | []=>[]
 | t::r=>match d28 (σ.slot t) with
   | true=>(t,σ.slot t)::e2p σ r
   | false=>e2p σ r
def d69 {U:Uni} (σ:U.St) (inv:List Nat) (al:List (Nat×Nat)) (es:List (EK U.C)) (s:Keep U es):U.St:=let σ':=b2d al es s;⟨e2p σ inv++σ'.sl,σ'.me,σ'.nx⟩
inductive Ann (C:Type) where
 | n
 | s (a b:Ann C)
 | j (al:List (Nat×Nat)) (es:List (EK C)) (a b:Ann C)
 | l (inv:List Nat) (al:List (Nat×Nat)) (es:List (EK C)) (a:Ann C)
 | g (sp:List Nat)
 | z (fz sp:List Nat)
structure Kont (U:Uni) (R:Type) where
 norm:U.St -> Option R
 exit:Nat -> U.St -> Option R
 ret:U.St -> Option R
def Ann.sp {C:Type}:Ann C -> List Nat | .g sp=>sp | .z _ sp=>sp | _=>[]
def Ann.fz {C:Type}:Ann C -> List Nat | .z fz _=>fz | _=>[]
def f1m {U:Uni} (σ:U.St):List Nat -> List (Nat×U.MC)
 | []=>[]
 | t::ts=>(match σ.slot t with
   | .ref id=>(match σ.mem id with
     | .sl _ c l=>(id,.fz c l)::f1m σ ts
     | _=>f1m σ ts)
   | _=>f1m σ ts)
def frzA {U:Uni} (σ:U.St) (ts:List Nat):U.St:=match ts with | []=>σ | t::ts=>σ.app none .unk (f1m σ (t::ts))
def Ann.fst {C:Type}:Ann C -> Ann C | .s a _=>a | .j _ _ a _=>a | a=>a
def Ann.snd {C:Type}:Ann C -> Ann C | .s _ b=>b | .j _ _ _ b=>b | _=> .n
abbrev bindO {α β:Type} (o:Option α) (f:α -> Option β):Option β:=match o with
 | some a=>f a
 | none=>none
def joinC {α β:Type} (f:α -> Option β) (a:α):Option β:=f a
def b28:Code -> List Nat
 | .region _ ops _=>ops.toList.filterMap (·.dst)
 | .seq a b=>b28 a++b28 b
 | .cond _ a b=>b28 a++b28 b
 | .block _ a=>b28 a
 | .loop a=>b28 a
 | _=>[]
def d8p (a b:List Nat):Bool:=a.all fun x=> !(b.any (Nat.beq x))
def den {R:Type} (pins:List Nat):Code -> Ann U.C -> U.St -> Kont U R -> Option R
 | .skip,_,σ,k=>k.norm σ
 | .region _ ops draw,an,σ,k=>c9v P Φ an.sp ops.toList draw (frzA σ an.fz) k.norm
 | .seq a b,an,σ,k=>match an with
   | .j al es a' b'=>den pins a a' σ ⟨fun σ=>bindO (d0m pins al es σ) fun s=>joinC (fun s=>den pins b b' (b2d al es s) k) s,k.exit,k.ret⟩
   | an=>den pins a an.fst σ ⟨fun σ=>den pins b an.snd σ k,k.exit,k.ret⟩
 | .cond c a b,an,σ,k=>match b4z σ c with
   | some e=>if e=true then den pins a an.fst σ k else den pins b an.snd σ k
   | none=>none
 | .block id a,an,σ,k=>den pins a an σ ⟨k.norm,fun i σ=>match Nat.beq i id with | true=>k.norm σ | false=>k.exit i σ,k.ret⟩
 | .loop a,.l inv al es an,σ,k=>match d8p inv (b28 a) with
   | true=>bindO (d0m pins al es σ) fun s=>d5 FU (fun rec s=>den pins a an (d69 σ inv al es s) ⟨fun σ'=>bindO (d0m pins al es σ') rec,k.exit,k.ret⟩) s
   | false=>none
 | .exit id,_,σ,k=>k.exit id σ
 | .ret,_,σ,k=>k.ret σ
 | _,_,_,_=>none
def u6 {U:Uni}:(i:Nat) -> (ps:List (PK U.C)) -> Args U ps -> U.St
 | i,[],_=>⟨[],[],i⟩
 | i,.v c::ps,(x,xs)=>let σ:=u6 (i+1) ps xs;⟨(i,inj c x)::σ.sl,σ.me,σ.nx⟩
 | i,.ls c::ps,(x,xs)=>let σ:=u6 (i+1) ps xs;⟨(i,.list c x)::σ.sl,σ.me,σ.nx⟩
 | i,.ow e c::ps,(x,xs)=>let σ:=u6 (i+1) ps xs;⟨(i,.ref i)::σ.sl,(i,.sl e c x)::σ.me,σ.nx⟩
 | i,.rp _ c::ps,(x,xs)=>let σ:=u6 (i+1) ps xs;⟨(i,.rp (inj c x))::σ.sl,σ.me,σ.nx⟩
 | i,.io t c::ps,(x,xs)=>let σ:=u6 (i+1) ps xs;⟨(i,.ref i)::σ.sl,(i,.box t (inj c x))::σ.me,σ.nx⟩
 | i,.im t c m::ps,(x,xs)=>let σ:=u6 (i+1) ps xs;⟨(i,.ref i)::σ.sl,(i,.box t (.st c (b3u m (U.flds c x))))::σ.me,σ.nx⟩
 | i,.po _ _ e c::ps,(x,xs)=>let σ:=u6 (i+1) ps xs;⟨σ.sl,(i,.sl e c x)::σ.me,σ.nx⟩
 | i,.so e c::ps,(x,xs)=>let σ:=u6 (i+1) ps xs;⟨(i,.ref i)::σ.sl,(i,.sl e c x)::σ.me,σ.nx⟩
 | i,.cl f cs::ps,(x,xs)=>let σ:=u6 (i+1) ps xs;⟨(i,.clo f (e2s cs x))::σ.sl,σ.me,σ.nx⟩
 | i,.bn f c::ps,(x,xs)=>let σ:=u6 (i+1) ps xs;⟨(i,.bnd f (inj c x))::σ.sl,σ.me,σ.nx⟩
 | i,.km g t::ps,(x,xs)=>let σ:=u6 (i+1) ps xs;⟨(i,.km g t x)::σ.sl,σ.me,σ.nx⟩
 | i,.vl g t c::ps,(x,xs)=>let σ:=u6 (i+1) ps xs;⟨(i,.vl g t c x)::σ.sl,σ.me,σ.nx⟩
def c42 {α β:Type} (x:Option α) (y:Option β):Option (α×β):=match x with
 | some a=>(match y with | some b=>some (a,b) | none=>none)
 | none=>none
def e2r {U:Uni} (σ:U.St):ResultVar -> Option U.AV
 | .tmp t=>some (σ.slot t)
 | .cell t ty=>match σ.slot t with
   | .ref id=>(match σ.mem id with
     | .box _ b=>(match b0e P ty (stF σ b) with | true=>some (stF σ b) | false=>none)
     | _=>none)
   | _=>none
def f05 {U:Uni} (σ:U.St):List ResultVar -> List (Nat×U.MC)
 | []=>[]
 | .cell t _::r=>(match σ.slot t with
   | .ref id=>(match σ.mem id with
     | .box _ (.st _ fs)=>e6o σ fs++f05 σ r
     | _=>f05 σ r)
   | _=>f05 σ r)
 | _::r=>f05 σ r
def resL {U:Uni} (σ:U.St) (us:List Nat) (c:U.C) (a:U.AV):Option (List (U.T c)×List Nat):=match a with
 | .list _ l=>(match b44 c l with | some l=>some (l,us) | none=>none)
 | .nils=>some ([],us)
 | .ref id=>(match us.any (Nat.beq id),σ.mem id with
   | false,.sl _ _ l=>(match b44 c l with | some l=>some (l,id::us) | none=>none)
   | _,.fz _ l=>(match b44 c l with | some l=>some (l,us) | none=>none)
   | _,_=>none)
 | _=>none
def resO {U:Uni} (σ:U.St) (us:List Nat) (e:TypeId) (c:U.C) (a:U.AV):Option (List (U.T c)×List Nat):=match a with
 | .nils=>some ([],us)
 | .ref id=>(match us.any (Nat.beq id),σ.mem id with
   | false,.sl e' _ l=>(match Nat.beq e e',b44 c l with | true,some l=>some (l,id::us) | _,_=>none)
   | _,_=>none)
 | _=>none
def resP {U:Uni} (σ:U.St) (us:List Nat) (t:TypeId) (c:U.C) (a:U.AV):Option (Option (U.T c)×List Nat):=match a with
 | .nilp=>some (none,us)
 | .ref id=>(match us.any (Nat.beq id),σ.mem id with
   | false,.box t' b=>(match Nat.beq t t',prj c b with | true,some x=>some (some x,id::us) | _,_=>none)
   | _,_=>none)
 | _=>none
def d7j {U:Uni} (σ:U.St):(b39:List Nat) -> (rs:List (RK U.C)) -> List ResultVar -> Option (Ress U rs)
 | _,[],[]=>some ()
 | us,.v c::rs,r::l=>match e2r P σ r with
   | some a=>c42 (prj c a) (d7j σ us rs l)
   | none=>none
 | us,.ls c::rs,r::l=>match e2r P σ r with
   | some a=>(match resL σ us c a with
     | some (x,us')=>c42 (some x) (d7j σ us' rs l)
     | none=>none)
   | none=>none
 | us,.ow e c::rs,r::l=>match e2r P σ r with
   | some a=>(match resO σ us e c a with
     | some (x,us')=>c42 (some x) (d7j σ us' rs l)
     | none=>none)
   | none=>none
 | us,.bo t c::rs,r::l=>match e2r P σ r with
   | some a=>(match resP σ us t c a with
     | some (x,us')=>c42 (some x) (d7j σ us' rs l)
     | none=>none)
   | none=>none
 | _,_,_=>none
def d7o {U:Uni} (σ:U.St) (b f:Nat):Option Nat:=match σ.mem b with
 | .box _ (.st _ fs)=>c0d fs f
 | _=>none
def ioP {U:Uni} (σ:U.St):Nat -> List (PK U.C) -> List Nat
 | _,[]=>[]
 | i,.io _ _::ps=>i::ioP σ (i+1) ps
 | i,.im _ _ _::ps=>i::ioP σ (i+1) ps
 | i,.so _ _::ps=>i::ioP σ (i+1) ps
 | i,.po b f _ _::ps=>(match d7o σ b f with | some j=>j | none=>0)::ioP σ (i+1) ps
 | i,_::ps=>ioP σ (i+1) ps
def c0u {U:Uni} (σ:U.St):(i:Nat) -> (ps:List (PK U.C)) -> Option (Outs U ps)
 | _,[]=>some ()
 | i,.io t c::ps=>match σ.mem i with
   | .box t' b=>(match Nat.beq t t' with
     | true=>c42 (prj c b) (c0u σ (i+1) ps)
     | false=>none)
   | _=>none
 | i,.im t c m::ps=>match σ.mem i with
   | .box t' (.st c' fs)=>(match Nat.beq t t'&&eqC c c' with
     | true=>c42 (U.mkv c (c4h m fs)) (c0u σ (i+1) ps)
     | false=>none)
   | _=>none
 | i,.po b f e c::ps=>match d7o σ b f with
   | some j=>(match σ.mem j with
     | .sl e' _ l=>(match Nat.beq e e' with
       | true=>c42 (b44 c l) (c0u σ (i+1) ps)
       | false=>none)
     | _=>none)
   | none=>none
 | i,.so e c::ps=>match σ.mem i with
   | .sl e' _ l=>(match Nat.beq e e' with
     | true=>c42 (b44 c l) (c0u σ (i+1) ps)
     | false=>none)
   | _=>none
 | i,.cl _ _::ps=>c0u σ (i+1) ps
 | i,.bn _ _::ps=>c0u σ (i+1) ps
 | i,.km _ _::ps=>c0u σ (i+1) ps
 | i,.vl _ _ _::ps=>c0u σ (i+1) ps
 | i,.v _::ps=>c0u σ (i+1) ps
 | i,.ls _::ps=>c0u σ (i+1) ps
 | i,.ow _ _::ps=>c0u σ (i+1) ps
 | i,.rp _ _::ps=>c0u σ (i+1) ps
def f6l {U:Uni} (s:Sig U) (rv:List ResultVar) (σ:U.St):Option (Ress U s.rs×Outs U s.ps):=
 match b9k (ioP σ 0 s.ps) with
 | true=>match d7j P σ (ioP σ 0 s.ps) s.rs rv with
   | some r=>match c0u σ 0 s.ps with | some o=>some (r,o) | none=>none
   | none=>none
 | false=>none
def d6z {U:Uni} (s:Sig U) (rv:List ResultVar) (σ:U.St):Option (Ress U s.rs×Outs U s.ps):=f6l P s rv (σ.app none .unk (f05 σ rv))
def ioI {C:Type}:Nat -> List (PK C) -> List Nat
 | _,[]=>[]
 | i,.io _ _::ps=>i::ioI (i+1) ps
 | i,.im _ _ _::ps=>i::ioI (i+1) ps
 | i,.so _ _::ps=>i::ioI (i+1) ps
 | i,_::ps=>ioI (i+1) ps
def unK {s:Sig U} {B:Type} (un:Ress U s.rs×Outs U s.ps -> B) (x:Option (Ress U s.rs×Outs U s.ps)):Option B:=match x with
 | some p=>some (un p)
 | none=>none
def d7q (s:Sig U) {B:Type} (un:Ress U s.rs×Outs U s.ps -> B) (fn:Func) (an:Ann U.C) (x:Args U s.ps):Option B:=match fn.body with
 | some c=>den P Φ (ioI 0 s.ps) c an (u6 0 s.ps x) ⟨fun σ=>unK un (d6z P s fn.results.toList σ),fun _ _=>none,fun σ=>unK un (d6z P s fn.results.toList σ)⟩
 | none=>none
end
end Go.SX
namespace Go.SX
open Go Go.PL
def m7 {α β:Type} (p:α -> β -> Prop):List α -> List β -> Prop
 | [],[]=>True
 | a::as,b::bs=>p a b /\ m7 p as bs
 | _,_=>False
theorem m7.mono {α β:Type} {p q:α -> β -> Prop} (h: ∀a b,p a b -> q a b): ∀{l:List α} {r:List β},m7 p l r -> m7 q l r
 | [],[],_=>trivial
 | _::_,_::_,hh=>⟨h _ _ hh.1,m7.mono h hh.2⟩
 | [],_::_,hh=>hh.elim
 | _::_,[],hh=>hh.elim
theorem m7.length {α β:Type} {p:α -> β -> Prop}: ∀{l:List α} {r:List β},m7 p l r -> l.length=r.length
 | [],[],_=>rfl
 | _::_,_::_,hh=>by simp [m7.length hh.2]
 | [],_::_,hh=>hh.elim
 | _::_,[],hh=>hh.elim
theorem m7.get {α β:Type} {p:α -> β -> Prop}: ∀{l:List α} {r:List β},m7 p l r -> ∀{i:Nat} {a:α},l[i]? =some a -> ∃b,r[i]? =some b /\ p a b
 | [],[],_,i,a,ha=>by simp at ha
 | x::_,y::_,hh,0,a,ha=>by simp at ha;subst ha;exact ⟨y,rfl,hh.1⟩
 | _::_,_::_,hh,i+1,a,ha=>by simpa using m7.get hh.2 (i:=i) (by simpa using ha)
 | [],_::_,hh,_,_,_=>hh.elim
 | _::_,[],hh,_,_,_=>hh.elim
theorem m7.getR {α β:Type} {p:α -> β -> Prop}: ∀{l:List α} {r:List β},m7 p l r -> ∀{i:Nat} {b:β},r[i]? =some b -> ∃a,l[i]? =some a /\ p a b
 | [],[],_,i,a,ha=>by simp at ha
 | x::_,y::_,hh,0,a,ha=>by simp at ha;subst ha;exact ⟨x,rfl,hh.1⟩
 | _::_,_::_,hh,i+1,a,ha=>by simpa using m7.getR hh.2 (i:=i) (by simpa using ha)
 | [],_::_,hh,_,_,_=>hh.elim
 | _::_,[],hh,_,_,_=>hh.elim
theorem m7.of_get {α β:Type} {p:α -> β -> Prop}: ∀{l:List α} {r:List β},l.length=r.length -> (∀(i:Nat) (a:α) (b:β),l[i]? =some a -> r[i]? =some b -> p a b) -> m7 p l r
 | [],[],_,_=>trivial
 | x::l,y::r,hl,h=>⟨h 0 x y rfl rfl,m7.of_get (by simpa using hl) fun i a b ha hb=>h (i+1) a b (by simpa using ha) (by simpa using hb)⟩
 | [],_::_,hl,_=>by simp at hl
 | _::_,[],hl,_=>by simp at hl
def AEq {U:Uni} (a b:U.AV):Prop:=a=b \/ (a= .nils /\ ∃c,b= .list c [])
structure UOK (U:Uni):Prop where
 lay: ∀c x,(U.flds c x).map u9=U.lay c
 kind: ∀c x,(U.flds c x).all b4v=true
 sum: ∀c,U.n c=((U.lay c).map osz).sum
 sc: ∀c,U.ag c=false -> U.lay c=[none]
 mkl: ∀c as y,U.mkv c as=some y -> m7 AEq as (U.flds c y)
 flat: ∀c x,U.flat c=true -> (U.flds c x).all f1w=true
 arr: ∀c x,U.isA c=true -> U.flds c x=(U.al c x).map (inj (U.ae c)) /\ (U.al c x).length=U.an c
 ars: ∀c x i y,U.isA c=true -> U.al c (U.as c x i y)=b0i (U.al c x) i y
 gt: ∀c x i y,U.isA c=true -> c8 (U.al c x) i=some y -> U.gt c x i=y
 by8: ∀c x,U.b8 c=true -> U.flds c x=[.int .u8 (U.t8 c x)]
 tabK: ∀w w',U.tab w -> (∀b,U.tb b -> w'.heap[b]? =w.heap[b]?) -> U.tab w'
section
variable {U:Uni}
def a0d (R: ∀c,TyR (U.T c)) (G:Nat -> Prop) (w:World):U.AV -> List Value -> Prop
 | .bool b,cs=>cs=[.bool b]
 | .int k n,cs=>cs=[.int k n]
 | .str s,cs=>cs=[.string s]
 | .val c x,cs=>(R c).rep G w cs x
 | .list c l,cs=> ∃v,cs=[v] /\ j5 (R c) G w v l
 | .nils,cs=>cs=[.slice none 0 0]
 | _,_=>False
theorem a0d.ext {R: ∀c,TyR (U.T c)} {G:Nat -> Prop} {w w':World} {a:U.AV} {cs:List Value} (h:a0d R G w a cs) (hE:Ext G w w'):a0d R G w' a cs:=by
 cases a<;>simp only [a0d] at* <;>first
  | exact h
  | exact (R _).ext h hE
  | (obtain ⟨v,hv,hr⟩:=h;exact ⟨v,hv,hr.ext hE⟩)
theorem a0d.weaken {R: ∀c,TyR (U.T c)} {G G':Nat -> Prop} {w:World} {a:U.AV} {cs:List Value} (h:a0d R G w a cs) (hG: ∀b,b<w.heap.size -> G' b -> G b):a0d R G' w a cs:=by
 cases a<;>simp only [a0d] at* <;>first
  | exact h
  | exact (R _).weaken h hG
  | (obtain ⟨v,hv,hr⟩:=h;exact ⟨v,hv,hr.weaken hG⟩)
def d7 (R: ∀c,TyR (U.T c)) (G:Nat -> Prop) (w:World):U.AV -> List Value -> Prop
 | .bool b,cs=>cs=[.bool b]
 | .int k n,cs=>cs=[.int k n]
 | .str s,cs=>cs=[.string s]
 | .val c x,cs=>(R c).rep G w cs x
 | .list c l,cs=> ∃v,cs=[v] /\ j5 (R c) G w v l
 | .nils,cs=>cs=[.slice none 0 0]
 | .rp a,cs=> ∃ad cs',cs=[.pointer (some ad)] /\ ad.block<w.heap.size /\ ¬G ad.block /\ CA w ad cs' /\ a0d R G w a cs'
 | .nilp,cs=>cs=[.pointer none]
 | _,_=>False
theorem d7.of0 {R: ∀c,TyR (U.T c)} {G:Nat -> Prop} {w:World} {a:U.AV} {cs:List Value} (h:a0d R G w a cs):d7 R G w a cs:=by
 cases a<;>first
  | exact h
  | exact h.elim
theorem d7.to0 {R: ∀c,TyR (U.T c)} {G:Nat -> Prop} {w:World} {a:U.AV} {cs:List Value} (hk:c6q a=true) (h:d7 R G w a cs):a0d R G w a cs:=by
 cases a<;>first
  | exact h
  | (cases hk;done)
theorem d7.ext {R: ∀c,TyR (U.T c)} {G:Nat -> Prop} {w w':World} {a:U.AV} {cs:List Value} (h:d7 R G w a cs) (hE:Ext G w w'):d7 R G w' a cs:=by
 cases a<;>simp only [d7] at* <;>first
  | exact h
  | exact (R _).ext h hE
  | (obtain ⟨v,hv,hr⟩:=h;exact ⟨v,hv,hr.ext hE⟩)
  | (obtain ⟨ad,cs',hc,hb,hg,hca,hr⟩:=h;exact ⟨ad,cs',hc,Nat.lt_of_lt_of_le hb hE.size,hg,hca.of_block (hE.block _ hb hg),hr.ext hE⟩)
theorem d7.weaken {R: ∀c,TyR (U.T c)} {G G':Nat -> Prop} {w:World} {a:U.AV} {cs:List Value} (h:d7 R G w a cs) (hG: ∀b,b<w.heap.size -> G' b -> G b):d7 R G' w a cs:=by
 cases a<;>simp only [d7] at* <;>first
  | exact h
  | exact (R _).weaken h hG
  | (obtain ⟨v,hv,hr⟩:=h;exact ⟨v,hv,hr.weaken hG⟩)
  | (obtain ⟨ad,cs',hc,hb,hg,hca,hr⟩:=h;exact ⟨ad,cs',hc,hb,fun hh=>hg (hG _ hb hh),hca,hr.weaken hG⟩)
def RdS (R: ∀c,TyR (U.T c)) (c:U.C):TyR (U.T c):=⟨U.n c,fun G w cs x=>cs.length=U.n c /\ ∃css:List (List Value),cs=css.flatten /\ m7 (d7 R G w) (U.flds c x) css,
 fun h=>h.1,fun ⟨hl,css,hc,h⟩ hE=>⟨hl,css,hc,h.mono fun _ _ hh=>hh.ext hE⟩,fun ⟨hl,css,hc,h⟩ hG=>⟨hl,css,hc,h.mono fun _ _ hh=>hh.weaken hG⟩⟩
def Rd:Nat -> ∀c,TyR (U.T c)
 | 0=>fun c=>⟨U.n c,fun _ _ _ _=>False,fun h=>h.elim,fun h _=>h,fun h _=>h⟩
 | d+1=>RdS (Rd d)
def Rp (c:U.C):TyR (U.T c):=⟨U.n c,fun G w cs x=> ∃d,(Rd d c).rep G w cs x,fun ⟨d,h⟩=>by
    cases d with
    | zero=>exact False.elim h
    | succ d=>exact h.1,
 fun ⟨d,h⟩ hE=>⟨d,(Rd d c).ext h hE⟩,fun ⟨d,h⟩ hG=>⟨d,(Rd d c).weaken h hG⟩⟩
theorem f1f (d:Nat) (c:U.C):(Rd d c).n=U.n c:=by cases d<;>rfl
theorem Rp_n (c:U.C):(Rp c).n=U.n c:=rfl
theorem j5.monoR {α:Type} {R R':TyR α} {G:Nat -> Prop} {w:World} {v:Value} {l:List α} (hn:R.n=R'.n) (hr: ∀cs x,R.rep G w cs x -> R'.rep G w cs x) (h:j5 R G w v l):j5 R' G w v l:=by
 rcases h with h | ⟨a,cap,hv,hc,hm,hi⟩
 ·exact .inl h
 ·refine .inr ⟨a,cap,hv,hc,hm,fun i x hx=> ?_⟩
  obtain ⟨cs,h1,h2⟩:=hi i x hx
  exact ⟨cs,hr _ _ h1,by rw [<- hn];exact h2⟩
theorem a0d.monoR {R R': ∀c,TyR (U.T c)} {G:Nat -> Prop} {w:World} (hn: ∀c,(R c).n=(R' c).n) (hr: ∀c cs x,(R c).rep G w cs x -> (R' c).rep G w cs x) {a:U.AV} {cs:List Value} (h:a0d R G w a cs):a0d R' G w a cs:=by
 cases a<;>simp only [a0d] at* <;>first
  | exact h
  | exact hr _ _ _ h
  | (obtain ⟨v,hv,h⟩:=h;exact ⟨v,hv,j5.monoR (hn _) (hr _) h⟩)
theorem d7.monoR {R R': ∀c,TyR (U.T c)} {G:Nat -> Prop} {w:World} (hn: ∀c,(R c).n=(R' c).n) (hr0: ∀c cs x,(R c).rep G w cs x -> (R' c).rep G w cs x) {a:U.AV} {cs:List Value} (h:d7 R G w a cs):d7 R' G w a cs:=by
 cases a<;>simp only [d7] at* <;>first
  | exact h
  | exact hr0 _ _ _ h
  | (obtain ⟨v,hv,h⟩:=h;exact ⟨v,hv,j5.monoR (hn _) (hr0 _) h⟩)
  | (obtain ⟨ad,cs',hc,hb,hg,hca,hr⟩:=h;exact ⟨ad,cs',hc,hb,hg,hca,hr.monoR hn hr0⟩)
theorem d88 {G:Nat -> Prop} {w:World}: ∀(d:Nat) (c:U.C) (cs:List Value) (x:U.T c),(Rd d c).rep G w cs x -> (Rd (d+1) c).rep G w cs x
 | 0,_,_,_,h=>False.elim h
 | d+1,c,cs,x,⟨hl,css,hc,h⟩=>⟨hl,css,hc,h.mono fun _ _ hh=>d7.monoR (fun c=>by rw [f1f,f1f]) (fun c cs x=>d88 d c cs x) hh⟩
theorem e95 {G:Nat -> Prop} {w:World} {d d':Nat} (hd:d <= d') {c:U.C} {cs:List Value} {x:U.T c} (h:(Rd d c).rep G w cs x):(Rd d' c).rep G w cs x:=by
 induction hd with
 | refl=>exact h
 | step _ ih=>exact d88 _ _ _ _ ih
theorem j5.bound {G:Nat -> Prop} {w:World} {c:U.C} {v:Value} {l:List (U.T c)} (h:j5 (Rp c) G w v l): ∃d,j5 (Rd d c) G w v l:=by
 rcases h with h | ⟨a,cap,hv,hc,hm,hi⟩
 ·exact ⟨0,.inl h⟩
 ·have key: ∀n,∃d,∀i x,i<n -> l[i]? =some x -> ∃cs,(Rd d c).rep G w cs x /\ a.block<w.heap.size /\ ¬G a.block /\ CA w (a.add (i*(Rp c).n)) cs:=by
   intro n
   induction n with
   | zero=>exact ⟨0,fun i x hi=>absurd hi (Nat.not_lt_zero _)⟩
   | succ n ih=>
     obtain ⟨d,hd⟩:=ih
     cases hx:l[n]? with
     | none=>exact ⟨d,fun i x hi2 hx2=>by
       rcases Nat.lt_succ_iff_lt_or_eq.1 hi2 with h | h
       ·exact hd i x h hx2
       ·subst h;rw [hx] at hx2;cases hx2⟩
     | some y=>
       obtain ⟨cs,⟨d',hr⟩,h2⟩:=hi n y hx
       exact ⟨max d d',fun i x hi2 hx2=>by
        rcases Nat.lt_succ_iff_lt_or_eq.1 hi2 with h | h
        ·obtain ⟨cs,h1,h2⟩:=hd i x h hx2
         exact ⟨cs,e95 (Nat.le_max_left _ _) h1,h2⟩
        ·subst h;rw [hx] at hx2;cases hx2
         exact ⟨cs,e95 (Nat.le_max_right _ _) hr,h2⟩⟩
  obtain ⟨d,hd⟩:=key l.length
  exact ⟨d,.inr ⟨a,cap,hv,hc,hm,fun i x hx=>by
   rw [f1f]
   exact hd i x (qD.1 hx).1 hx⟩⟩
theorem a0d.bound {G:Nat -> Prop} {w:World} {a:U.AV} {cs:List Value} (h:a0d Rp G w a cs): ∃d,a0d (Rd d) G w a cs:=by
 cases a<;>simp only [a0d] at* <;>first
  | exact ⟨0,h⟩
  | exact h
  | (obtain ⟨v,hv,h⟩:=h;obtain ⟨d,h⟩:=j5.bound h;exact ⟨d,v,hv,h⟩)
theorem d7.bound {G:Nat -> Prop} {w:World} {a:U.AV} {cs:List Value} (h:d7 Rp G w a cs): ∃d,d7 (Rd d) G w a cs:=by
 cases a<;>simp only [d7] at* <;>first
  | exact ⟨0,h⟩
  | exact h
  | (obtain ⟨v,hv,h⟩:=h;obtain ⟨d,h⟩:=j5.bound h;exact ⟨d,v,hv,h⟩)
  | (obtain ⟨ad,cs',hc,hb,hg,hca,hr⟩:=h;obtain ⟨d,hr⟩:=hr.bound;exact ⟨d,ad,cs',hc,hb,hg,hca,hr⟩)
theorem d7.up {G:Nat -> Prop} {w:World} {d d':Nat} (hd:d <= d') {a:U.AV} {cs:List Value} (h:d7 (Rd d) G w a cs):d7 (Rd d') G w a cs:=
 d7.monoR (fun c=>by rw [f1f,f1f]) (fun c cs x h=>e95 hd h) h
theorem m7.bound {G:Nat -> Prop} {w:World}: ∀{as:List U.AV} {css:List (List Value)},m7 (d7 Rp G w) as css -> ∃d,m7 (d7 (Rd d) G w) as css
 | [],[],_=>⟨0,trivial⟩
 | a::as,c::cs,h=>by
   obtain ⟨d,h1⟩:=d7.bound h.1
   obtain ⟨d',h2⟩:=m7.bound h.2
   exact ⟨max d d',h1.up (Nat.le_max_left _ _),h2.mono fun _ _ hh=>hh.up (Nat.le_max_right _ _)⟩
 | [],_::_,hh=>hh.elim
 | _::_,[],hh=>hh.elim
theorem a73 {G:Nat -> Prop} {w:World} {c:U.C} {cs:List Value} {x:U.T c}:(Rp c).rep G w cs x↔cs.length=U.n c /\ ∃css,cs=css.flatten /\ m7 (d7 Rp G w) (U.flds c x) css:=by
 constructor
 ·rintro ⟨d,h⟩
  cases d with
  | zero=>exact False.elim h
  | succ d=>
    obtain ⟨hl,css,hc,h⟩:=h
    exact ⟨hl,css,hc,h.mono fun _ _ hh=>d7.monoR (R':=Rp) (fun c=>f1f d c) (fun c cs x h=>show∃d,_ from ⟨d,h⟩) hh⟩
 ·rintro ⟨hl,css,hc,h⟩
  obtain ⟨d,h⟩:=m7.bound h
  exact ⟨d+1,hl,css,hc,h⟩
def b9b:Value -> Option Addr
 | .pointer (some a)=>some a
 | .slice (some a) _ _=>some a
 | _=>none
def b0k:U.C -> List PE -> Nat
 | _,[]=>0
 | c,.f n::p=>off c n+(match (U.lay c)[n]? with | some (some c')=>b0k c' p | _=>0)
 | c,.i n::p=>n.toNat*U.n (U.ae c)+b0k (U.ae c) p
def c51 (c:U.C):List PE -> Nat
 | .i n::p=>n.toNat*U.n c+b0k c p
 | p=>b0k c p
def okV:U.C -> List PE -> Prop
 | _,[]=>True
 | c,.f n::p=>match (U.lay c)[n]? with | some (some c')=>okV c' p | _=>True
 | c,.i n::p=>0 <= n /\ n<(U.an c:Int) /\ okV (U.ae c) p
def okP (c:U.C):List PE -> Prop
 | .i _::p=>okV c p
 | p=>okV c p
structure Cx where
 Z:Nat -> Prop
 π:Nat -> Value
 us:Nat -> Prop
 w:World
def Cx.G (X:Cx):Nat -> Prop:=fun b=> ¬X.Z b
def b48 (l:List (Int×Int)):Obj:= .map (l.zipIdx.map fun q=>({key:= .int .i64 q.1.1,val:= .int .i64 q.1.2,born:=q.2}:MapEntry)).toArray l.length
def b37 (X:Cx):U.AV -> Value -> Prop
 | .unk,_=>True
 | .undef,v=>v=undef
 | .nils,v=>v= .slice none 0 0
 | .nilp,v=>v= .pointer none
 | .bool b,v=>v= .bool b
 | .int k n,v=>v= .int k n
 | .str s,v=>v= .string s
 | .val c x,v=> ∃cs:List Value,v= .agg cs.toArray /\ (Rp c).rep X.G X.w cs x
 | .list c l,v=>j5 (Rp c) X.G X.w v l
 | .rp a,v=> ∃ad cs,v= .pointer (some ad) /\ ad.block<X.w.heap.size /\ ¬X.G ad.block /\ CA X.w ad cs /\ d7 Rp X.G X.w a cs
 | .ref id,v=>X.us id /\ v=X.π id /\ v.oneCell'=true
 | .fref id c p,v=>X.us id /\ ∃a,b9b (X.π id)=some a /\ okP c p /\ v= .pointer (some (a.add (c51 c p)))
 | .clo f as,v=>as=[] /\ v= .func (.func f) #[] #[]
 | .tup _,_=>False
 | .st _ _,_=>False
 | .vw id c lo n,v=>X.us id /\ c4b v (X.π id) (U.n c) lo n
 | .bnd _ _,_=>False
 | .ifc _ _,_=>False
 | .km _ _ _,_=>False
 | .vl _ _ _ _,_=>False
 | .mi,v=> ∃b mb s c,v= .pointer (some ⟨b,0,none⟩) /\ (b<X.w.heap.size /\ ¬X.G b) /\ (mb<X.w.heap.size /\ ¬X.G mb) /\ X.w.heap[b]? =some (.mapIter (some mb) s #[] c) /\ X.w.heap[mb]? =some (b48 [])
 | .va id c p n,v=>X.us id /\ ∃a,b9b (X.π id)=some a /\ okP c p /\ v= .slice (some (a.add (c51 c p))) n n
def a18 (X:Cx):U.AV -> Value -> Prop
 | .st c as,v=> ∃css:List (List Value),v= .agg css.flatten.toArray /\ as.map u9=U.lay c /\ as.all u7=true /\ m7 (fun a cs=> ∃u:Value,u.cells.toList=cs /\ b37 X a u) as css
 | a,v=>b37 X a v
def AVR (X:Cx):U.AV -> Value -> Prop
 | .clo f as,v=> ∃vs:List Value,v= .func (.func f) #[] vs.toArray /\ m7 (a18 X) as vs
 | .tup as,v=> ∃vs:List Value,v= .tuple vs.toArray /\ m7 (a18 X) as vs
 | .bnd f a,v=> ∃u:Value,v= .func (.func f) #[u] #[] /\ a18 X a u
 | .ifc t a,v=> ∃u:Value,v= .iface t u /\ a18 X a u
 | .km g t l,v=> ∃bb mb,v= .func (.func g) #[] #[.pointer (some ⟨bb,0,none⟩)] /\ (bb<X.w.heap.size /\ ¬X.G bb) /\ (mb<X.w.heap.size /\ ¬X.G mb) /\ Mb X.w bb t [.map (some mb)] /\ (l.map (·.1)).Nodup /\ X.w.heap[mb]? =some (b48 l)
 | .vl g t c l,v=> ∃bb sv,v= .func (.func g) #[] #[.pointer (some ⟨bb,0,none⟩)] /\ (bb<X.w.heap.size /\ ¬X.G bb) /\ Mb X.w bb t [sv] /\ j5 (Rp c) X.G X.w sv l
 | a,v=>a18 X a v
abbrev Raw (n:Nat):={l:List Value // l.length=n /\ ∀u∈l,u.oneCell'=true}
def MR (X:Cx):U.MC -> Value -> Prop
 | .never,_ | .dead,_=>True
 | .box t a,v=> ∃b u,v= .pointer (some ⟨b,0,none⟩) /\ Mb X.w b t u.cells.toList /\ a18 X a u
 | .sl e c l,v=> ∃css:List (Raw (U.n c)),Own 0 e (U.n c) Subtype.val X.w v css /\ m7 (fun (r:Raw (U.n c)) x=>(Rp c).rep X.G X.w r.1 x) css l
 | .fz c l,v=>j5 (Rp c) X.G X.w v l
 | .it s p,v=> ∃b,v= .pointer (some ⟨b,0,none⟩) /\ 0 <= p /\ X.w.heap[b]? =some (.stringIter s p.toNat)
 | .mp l,v=> ∃b,v= .map (some b) /\ (l.map (·.1)).Nodup /\ X.w.heap[b]? =some (b48 l)
def MB:U.MC -> Value -> Nat -> Prop
 | .box _ _,v,b | .sl _ _ _,v,b | .it _ _,v,b | .mp _,v,b=>hdV v=some b
 | _,_,_=>False
structure Cx.Le (X X':Cx):Prop where
 z: ∀b,X.Z b -> X'.Z b
 e:Ext X.G X.w X'.w
 u: ∀id,X.us id -> X'.us id /\ X'.π id=X.π id
theorem d7.le {X X':Cx} (h:X.Le X') {a:U.AV} {cs:List Value} (ha:d7 Rp X.G X.w a cs):d7 Rp X'.G X'.w a cs:=
 (ha.ext h.e).weaken fun b _ hb hz=>hb (h.z b hz)
theorem j5.le {X X':Cx} (h:X.Le X') {c:U.C} {v:Value} {l:List (U.T c)} (ha:j5 (Rp c) X.G X.w v l):j5 (Rp c) X'.G X'.w v l:=
 (ha.ext h.e).weaken fun b _ hb hz=>hb (h.z b hz)
theorem b8h {X X':Cx} (h:X.Le X') {c:U.C} {cs:List Value} {x:U.T c} (ha:(Rp c).rep X.G X.w cs x):(Rp c).rep X'.G X'.w cs x:=
 (Rp c).weaken ((Rp c).ext ha h.e) fun b _ hb hz=>hb (h.z b hz)
theorem b37.le {X X':Cx} (h:X.Le X') {a:U.AV} {v:Value} (ha:b37 X a v):b37 X' a v:=by
 cases a<;>simp only [b37] at* <;>first
  | exact ha
  | (obtain ⟨cs,hv,hr⟩:=ha;exact ⟨cs,hv,b8h h hr⟩)
  | exact j5.le h ha
  | (obtain ⟨ad,cs,hv,hb,hg,hc,hr⟩:=ha
     exact ⟨ad,cs,hv,Nat.lt_of_lt_of_le hb h.e.size,fun hz=>hg (fun hh=>hz (h.z _ hh)),hc.of_block (h.e.block _ hb hg),hr.le h⟩)
  | (obtain ⟨hu,hv⟩:=ha;exact ⟨(h.u _ hu).1,by rw [(h.u _ hu).2];exact hv⟩)
  | (obtain ⟨b,mb,s,c,hv,⟨h1,h2⟩,⟨h3,h4⟩,h5,h6⟩:=ha
     exact ⟨b,mb,s,c,hv,⟨Nat.lt_of_lt_of_le h1 h.e.size,fun hz=>h2 (fun hh=>hz (h.z _ hh))⟩,⟨Nat.lt_of_lt_of_le h3 h.e.size,fun hz=>h4 (fun hh=>hz (h.z _ hh))⟩,(h.e.block _ h1 h2).trans h5,(h.e.block _ h3 h4).trans h6⟩)
theorem a18.le {X X':Cx} (h:X.Le X') {a:U.AV} {v:Value} (ha:a18 X a v):a18 X' a v:=by
 cases a
 case st c as=>
  obtain ⟨css,hv,hl,hp,hr⟩:=ha
  exact ⟨css,hv,hl,hp,hr.mono fun _ _ ⟨u,hu,hh⟩=>⟨u,hu,b37.le h hh⟩⟩
 all_goals
  simp only [a18] at ha⊢
  exact b37.le h ha
theorem AVR.le {X X':Cx} (h:X.Le X') {a:U.AV} {v:Value} (ha:AVR X a v):AVR X' a v:=by
 cases a<;>simp only [AVR] at* <;>first
  | exact a18.le h ha
  | (obtain ⟨vs,hv,hr⟩:=ha;exact ⟨vs,hv,hr.mono fun _ _ hh=>hh.le h⟩)
  | (obtain ⟨u,hv,hr⟩:=ha;exact ⟨u,hv,hr.le h⟩)
  | (obtain ⟨bb,mb,hv,⟨h1,h2⟩,⟨h3,h4⟩,h5,h6,h7⟩:=ha
     exact ⟨bb,mb,hv,⟨Nat.lt_of_lt_of_le h1 h.e.size,fun hz=>h2 (fun hh=>hz (h.z _ hh))⟩,⟨Nat.lt_of_lt_of_le h3 h.e.size,fun hz=>h4 (fun hh=>hz (h.z _ hh))⟩,(h.e.block _ h1 h2).trans h5,h6,(h.e.block _ h3 h4).trans h7⟩)
  | (obtain ⟨bb,sv,hv,⟨h1,h2⟩,h5,h6⟩:=ha
     exact ⟨bb,sv,hv,⟨Nat.lt_of_lt_of_le h1 h.e.size,fun hz=>h2 (fun hh=>hz (h.z _ hh))⟩,(h.e.block _ h1 h2).trans h5,j5.le h h6⟩)
theorem AVR.of1 {X:Cx} {a:U.AV} {v:Value} (h:a18 X a v):AVR X a v:=by
 cases a<;>first
  | exact h
  | (obtain ⟨rfl,hv⟩:=h;exact ⟨[],hv,trivial⟩)
  | exact h.elim
theorem MR.le {X X':Cx} (h:X.Le X') {m:U.MC} {v:Value} (hm:MR X m v) (hb: ∀b,MB m v b -> b<X.w.heap.size -> X'.w.heap[b]? =X.w.heap[b]?):MR X' m v:=by
 cases m<;>simp only [MR] at*
 case box t a=>
  obtain ⟨b,u,hv,hM,ha⟩:=hm
  subst hv
  exact ⟨b,u,rfl,(hb b rfl hM.lt).trans hM,ha.le h⟩
 case sl e c l=>
  obtain ⟨css,hO,hr⟩:=hm
  refine ⟨css,?_,hr.mono fun _ _ hh=>b8h h hh⟩
  rcases hO with hO | ⟨g,o,cap,cur,hv,hg,hh,r⟩
  ·exact .inl hO
  ·subst hv
   exact .inr ⟨g,o,cap,cur,rfl,hg,(hb g rfl (qN.1 hh).1).trans hh,r⟩
 case fz c l=>exact j5.le h hm
 case it s p=>
  obtain ⟨b,hv,h0,hh⟩:=hm
  subst hv
  exact ⟨b,rfl,h0,(hb b rfl (qN.1 hh).1).trans hh⟩
 case mp l=>
  obtain ⟨b,hv,h0,hh⟩:=hm
  subst hv
  exact ⟨b,rfl,h0,(hb b rfl (qN.1 hh).1).trans hh⟩
structure Env where
 w0:World
 G:Nat -> Prop
 Z:Nat -> Prop
 pin:Nat -> Prop
 π0:Nat -> Value
def b39 (σ:U.St) (id:Nat):Prop:=σ.mem id≠ .never
def cx (Z:Nat -> Prop) (π:Nat -> Value) (σ:U.St) (w:World):Cx:=⟨Z,π,b39 σ,w⟩
structure Rel (E:Env) (Z:Nat -> Prop) (π:Nat -> Value) (σ:U.St) (ρ:Nat -> Value) (w:World):Prop where
 slot: ∀t,AVR (cx Z π σ w) (σ.slot t) (ρ t)
 mem: ∀id,MR (cx Z π σ w) (σ.mem id) (π id)
 own: ∀id b,MB (σ.mem id) (π id) b -> ¬Z b /\ b<w.heap.size /\ (E.G b \/ E.w0.heap.size <= b)
 dist: ∀id id' b,id≠id' -> MB (σ.mem id) (π id) b -> ¬MB (σ.mem id') (π id') b
 zlt: ∀b,Z b -> b<w.heap.size
 zin: ∀b,Z b -> E.Z b \/ E.G b \/ E.w0.heap.size <= b
 zout: ∀b,E.Z b -> Z b
 ext:Ext E.G E.w0 w
 pin: ∀id,E.pin id -> b39 σ id /\ π id=E.π0 id
 tab:U.tab E.w0 /\ ∀b,U.tb b -> b<E.w0.heap.size /\ ¬E.G b
theorem Rel.tabw (hU:UOK U) {E:Env} {Z:Nat -> Prop} {π:Nat -> Value} {σ:U.St} {ρ:Nat -> Value} {w:World} (h:Rel E Z π σ ρ w):U.tab w:=hU.tabK _ _ h.tab.1 fun b hb=>h.ext.block b (h.tab.2 b hb).1 (h.tab.2 b hb).2
theorem c4u {G G0:Nat -> Prop} {w0 w w':World} (h:Ext G0 w0 w) (hE:Ext G w w') (hG: ∀x,G x -> G0 x \/ w0.heap.size <= x):Ext G0 w0 w':=
 ⟨hE.os.trans h.os,hE.tape.trans h.tape,hE.output.trans h.output,Nat.le_trans h.size hE.size,fun i hi hg=>(hE.block i (Nat.lt_of_lt_of_le hi h.size) (fun hx=>(hG i hx).elim hg (by omega))).trans (h.block i hi hg)⟩
theorem c1b {α:Type} (t:Nat): ∀(l r:List (Nat×α)),lk t (l++r)=match lk t l with | some a=>some a | none=>lk t r
 | [],r=>rfl
 | (k,a)::l,r=>by
   show (bif Nat.beq k t then some a else lk t (l++r))=_
   rw [c1b t l r]
   show _=match (bif Nat.beq k t then some a else lk t l) with | some a=>some a | none=>lk t r
   cases Nat.beq k t<;>rfl
theorem a98 {α:Type} {t:Nat}: ∀{l:List (Nat×α)} {a:α},lk t l=some a -> (t,a)∈l
 | [],a,h=>by cases h
 | (k,b)::l,a,h=>by
   have h':(bif Nat.beq k t then some b else lk t l)=some a:=h
   cases hk:Nat.beq k t with
   | true=>
     rw [hk] at h'
     have:k=t:=qC hk
     subst this;cases h';exact qI
   | false=>rw [hk] at h';exact qJ _ (a98 h')
theorem m5 (σ:U.St) (d:Option Tmp) (a:U.AV) (ws:List (Nat×U.MC)) (id:Nat):(σ.app d a ws).mem id=match lk id ws with | some m=>m | none=>σ.mem id:=by
 have h:(σ.app d a ws).me=ws++σ.me:=by cases d<;>rfl
 unfold St.mem
 rw [h,c1b]
 cases lk id ws<;>rfl
theorem p9 (σ:U.St) (d:Option Tmp) (a:U.AV) (ws:List (Nat×U.MC)) (t:Nat):(σ.app d a ws).slot t=if d=some t then a else σ.slot t:=by
 cases d with
 | none=>rfl
 | some d=>
   simp only [St.slot,St.app,St.put,lk]
   cases hk:Nat.beq d t with
   | true=>rw [qC hk];simp
   | false=>
     have:d≠t:=Nat.ne_of_beq_eq_false hk
     simp [this]
theorem c1v (ρ:Nat -> Value) (d:Option Tmp) (v:Value) (t:Nat):a9j ρ d v t=if d=some t then v else ρ t:=by
 cases d with
 | none=>rfl
 | some d=>
   simp only [a9j,upd,Option.some.injEq]
   by_cases h:d=t
   ·subst h;simp
   ·rw [if_neg h,if_neg (fun e=>h e.symm)]
theorem Rel.next {E:Env} {Z:Nat -> Prop} {π:Nat -> Value} {σ:U.St} {ρ:Nat -> Value} {w:World} (h:Rel E Z π σ ρ w) {w':World} {Z':Nat -> Prop} {π':Nat -> Value} {ws:List (Nat×U.MC)} {d:Option Tmp} {v:Value} {a:U.AV}
  (hE:Ext (fun b=> ∃id m,lk id ws=some m /\ MB (σ.mem id) (π id) b) w w')
  (hZ: ∀b,Z b -> Z' b)
  (hZ': ∀b,Z' b -> Z b \/ (w.heap.size <= b /\ b<w'.heap.size) \/ ∃id m,lk id ws=some m /\ MB (σ.mem id) (π id) b)
  (hπ: ∀id,b39 σ id -> π' id=π id)
  (hnn: ∀id m,lk id ws=some m -> m≠ .never)
  (hm: ∀id m,lk id ws=some m -> MR (cx Z' π' (σ.app d a ws) w') m (π' id))
  (ho: ∀id m b,lk id ws=some m -> MB m (π' id) b -> ¬Z' b /\ b<w'.heap.size /\ (w.heap.size <= b \/ ∃id0 m0,lk id0 ws=some m0 /\ MB (σ.mem id0) (π id0) b))
  (hd: ∀id id' m m' b,id≠id' -> lk id ws=some m -> lk id' ws=some m' -> MB m (π' id) b -> ¬MB m' (π' id') b)
  (ha:AVR (cx Z' π' (σ.app d a ws) w') a v):
  Rel E Z' π' (σ.app d a ws) (a9j ρ d v) w':=by
 have hle:(cx Z π σ w).Le (cx Z' π' (σ.app d a ws) w'):=by
  refine ⟨hZ,hE.mono fun b ⟨id,m,_,hb⟩ hz=>(h.own id b hb).1 hz,fun id hu=>⟨?_,hπ id hu⟩⟩
  show (σ.app d a ws).mem id≠ .never
  rw [m5]
  cases hl:lk id ws with
  | none=>exact hu
  | some m=>exact hnn id m hl
 have hπm: ∀id b,MB (σ.mem id) (π id) b -> π' id=π id:=fun id b hb=>hπ id (fun hn=>by rw [hn] at hb;exact hb)
 have hMBn: ∀{id b},lk id ws=none -> (MB (σ.mem id) (π' id) b↔MB (σ.mem id) (π id) b):=by
  intro id b hl
  by_cases hu:b39 σ id
  ·rw [hπ id hu]
  ·have:σ.mem id= .never:=Classical.not_not.1 hu
   rw [this];exact Iff.rfl
 constructor
 ·intro t
  rw [p9,c1v]
  split
  ·exact ha
  ·exact (h.slot t).le hle
 ·intro id
  rw [m5]
  cases hl:lk id ws with
  | some m=>exact hm id m hl
  | none=>
    by_cases hu:b39 σ id
    ·rw [hπ id hu]
     refine MR.le hle (h.mem id) fun b hb hlt=>hE.block b hlt ?_
     rintro ⟨id',m',hl',hb'⟩
     have hne:id≠id':=fun e=>by subst e;rw [hl] at hl';cases hl'
     exact h.dist id id' b hne hb hb'
    ·have:σ.mem id= .never:=Classical.not_not.1 hu
     rw [this];trivial
 ·intro id b hb
  rw [m5] at hb
  cases hl:lk id ws with
  | some m=>
    rw [hl] at hb
    obtain ⟨h1,h2,h3⟩:=ho id m b hl hb
    refine ⟨h1,h2,?_⟩
    rcases h3 with h3 | ⟨id0,m0,_,hb0⟩
    ·exact .inr (Nat.le_trans h.ext.size h3)
    ·exact (h.own id0 b hb0).2.2
  | none=>
    rw [hl] at hb
    have hb2:=(hMBn hl).1 hb
    obtain ⟨h1,h2,h3⟩:=h.own id b hb2
    refine ⟨fun hz=> ?_,Nat.lt_of_lt_of_le h2 hE.size,h3⟩
    rcases hZ' b hz with hz | hz | ⟨id',m',hl',hb'⟩
    ·exact h1 hz
    ·omega
    ·have hne:id≠id':=fun e=>by subst e;rw [hl] at hl';cases hl'
     exact h.dist id id' b hne hb2 hb'
 ·intro id id' b hne hb hb'
  rw [m5] at hb hb'
  have cross: ∀{i j m},i≠j -> lk i ws=some m -> lk j ws=none -> MB m (π' i) b -> MB (σ.mem j) (π j) b -> False:=by
   intro i j m hij hi hj h1 h2
   obtain ⟨_,_,h3⟩:=ho i m b hi h1
   rcases h3 with h3 | ⟨id0,m0,hl0,hb0⟩
   ·have:=(h.own j b h2).2.1;omega
   ·have hne0:id0≠j:=fun e=>by subst e;rw [hj] at hl0;cases hl0
    exact h.dist id0 j b hne0 hb0 h2
  cases hl:lk id ws with
  | some m=>
    rw [hl] at hb
    cases hl':lk id' ws with
    | some m'=>rw [hl'] at hb';exact hd id id' m m' b hne hl hl' hb hb'
    | none=>rw [hl'] at hb';exact cross hne hl hl' hb ((hMBn hl').1 hb')
  | none=>
    rw [hl] at hb
    have hb2:=(hMBn hl).1 hb
    cases hl':lk id' ws with
    | some m'=>rw [hl'] at hb';exact cross (Ne.symm hne) hl' hl hb' hb2
    | none=>rw [hl'] at hb';exact h.dist id id' b hne hb2 ((hMBn hl').1 hb')
 ·intro b hz
  rcases hZ' b hz with hz | hz | ⟨id',m',hl',hb'⟩
  ·exact Nat.lt_of_lt_of_le (h.zlt b hz) hE.size
  ·exact hz.2
  ·exact Nat.lt_of_lt_of_le (h.own id' b hb').2.1 hE.size
 ·intro b hz
  rcases hZ' b hz with hz | hz | ⟨id',m',hl',hb'⟩
  ·exact h.zin b hz
  ·exact .inr (.inr (Nat.le_trans h.ext.size hz.1))
  ·exact .inr (h.own id' b hb').2.2
 ·intro b hz;exact hZ b (h.zout b hz)
 ·exact c4u h.ext hE fun b ⟨id,m,_,hb⟩=>(h.own id b hb).2.2
 ·intro id hp
  obtain ⟨h1,h2⟩:=h.pin id hp
  exact ⟨(hle.u id h1).1,(hπ id h1).trans h2⟩
 ·exact h.tab
end
end Go.SX
namespace Go.SX
open Go Go.PL
section
variable {P:Program} {U:Uni} {E:Env} {Z:Nat -> Prop} {π:Nat -> Value} {σ:U.St} {ρ:Nat -> Value} {w:World}
def a39 (P:Program) (E:Env) (σ:U.St) (ρ:Nat -> Value) (w:World) (o:Oper) (a:U.AV) (ws:List (Nat×U.MC)):Prop:=
 y9 P o (ev ρ) w fun u w'=> ∃Z' π',Rel E Z' π' (σ.app o.dst a ws) (a9j ρ o.dst u) w'
theorem e46 {d:Option Tmp} {a:U.AV} {id:Nat}:b39 (σ.app d a []) id↔b39 σ id:=by
 unfold b39;rw [m5];exact Iff.rfl
theorem f5a {d:Option Tmp} {a:U.AV}:cx Z π (σ.app d a []) w=cx Z π σ w:=by
 unfold cx;congr 1;funext id;exact propext e46
theorem Rel.val (h:Rel E Z π σ ρ w) {w':World} (hE:Ext noG w w') {d:Option Tmp} {a:U.AV} {v:Value} (ha:AVR (cx Z π σ w) a v):Rel E Z π (σ.app d a []) (a9j ρ d v) w':=by
 refine h.next (hE.mono fun _ hh=>hh.elim) (fun _ hh=>hh) (fun _ hh=> .inl hh) (fun _ _=>rfl) (fun id m hl=>by cases hl) (fun id m hl=>by cases hl) (fun id m b hl=>by cases hl) (fun id id' m m' b _ hl=>by cases hl) ?_
 rw [f5a]
 have hle:(cx Z π σ w).Le (cx Z π σ w'):=⟨fun _ hh=>hh,hE.of_no,fun _ hh=>⟨hh,rfl⟩⟩
 exact AVR.le hle ha
theorem d9 (h:Rel E Z π σ ρ w) {o:Oper} {a:U.AV} {v:Value} (hy:YV P (ev ρ) w o v) (ha:AVR (cx Z π σ w) a v):a39 P E σ ρ w o a []:=by
 unfold a39 y9
 rw [hy]
 exact ⟨Z,π,h.val (Ext.refl _ _) ha⟩
theorem e0o {X:Cx} {v:Value} {a:U.AV} (h:b6v v=some a):AVR X a v:=by
 unfold b6v at h
 split at h<;>first
  | (cases h;rfl)
  | cases h
theorem q9 (h:Rel E Z π σ ρ w) {x:Operand} {k:U.AV -> U.Q} {m0 m:Nat} {v:U.AV} {ws:List (Nat×U.MC)} (hev:(rdO x k).Ev σ m0 m v ws):
  ∃a m1,AVR (cx Z π σ w) a (ev ρ x) /\ (k a).Ev σ m1 m v ws:=by
 cases x with
 | tmp t=>exact ⟨_,_,h.slot t,hev.2⟩
 | const c=>
   simp only [rdO] at hev
   cases hc:(b6v c:Option U.AV) with
   | none=>rw [hc] at hev;exact hev.elim
   | some a=>rw [hc] at hev;exact ⟨a,_,e0o hc,hev⟩
 | global g=>exact hev.elim
 | func f=>exact ⟨.clo f [],_,⟨[],rfl,trivial⟩,hev⟩
theorem b98 (h:Rel E Z π σ ρ w): ∀{xs:List Operand} {k:List U.AV -> U.Q} {m0 m:Nat} {v:U.AV} {ws:List (Nat×U.MC)},(e7s xs k).Ev σ m0 m v ws ->
  ∃as m1,m7 (AVR (cx Z π σ w)) as (xs.map (ev ρ)) /\ (k as).Ev σ m1 m v ws
 | [],k,m0,m,v,ws,hev=>⟨[],m0,trivial,hev⟩
 | x::r,k,m0,m,v,ws,hev=>by
   obtain ⟨a,m1,ha,hev⟩:=q9 h hev
   obtain ⟨as,m2,has,hev⟩:=b98 h hev
   exact ⟨a::as,m2,⟨ha,has⟩,hev⟩
section
variable {d:Option Tmp} {ty:TypeId} {ps:String} {af:Array Edge} {g:Option (Nat×Bool)} {x y z:Operand} {m0 m:Nat} {a b c v:U.AV} {ws:List (Nat×U.MC)} {fr:Nat}
theorem c7x (h:Rel E Z π σ ρ w) {op:Op} (hop:op= .move x \/ op= .assign x) (hev:(rdO x fun a=>(.done a []:U.Q)).Ev σ m0 m v ws):a39 P E σ ρ w ⟨d,op,ty,ps,af,g⟩ v ws:=by
 obtain ⟨a,m1,ha,hm,rfl,rfl⟩:=q9 h hev
 rcases hop with rfl | rfl
 ·exact d9 h (b4w rfl) ha
 ·exact d9 h (b3q rfl) ha
theorem e5z (h:Rel E Z π σ ρ w) {op:BinOp} {t t':TypeId} (hx:AVR (cx Z π σ w) a (ev ρ x)) (hy:AVR (cx Z π σ w) b (ev ρ y)) (hev:(f7v P op t a b).Ev σ m0 m v ws):
  a39 P E σ ρ w ⟨d,.binOp op t x y t',ty,ps,af,g⟩ v ws:=by
 cases a<;>try exact hev.elim
 case int k n=>
  cases b<;>try exact hev.elim
  rename_i k' n'
  have hx:ev ρ x= .int k n:=hx
  have hy:ev ρ y= .int k' n':=hy
  cases op
  case shl=>obtain ⟨c,hc,hm,rfl,rfl⟩:=hev;exact d9 h (f6m hx hy (c8v hc).1 (c8v hc).2) rfl
  case shr=>obtain ⟨c,hc,hm,rfl,rfl⟩:=hev;exact d9 h (f7q hx hy (c9e hc).1 (c9e hc).2) rfl
  all_goals
   have hev2:(match eqK k k' with | true=>binI _ k n n' | false=>(.fail:U.Q)).Ev σ m0 m v ws:=hev
   clear hev
   unfold eqK at hev2
   cases hk:decEq k k' with
   | isFalse hne=>rw [hk] at hev2;exact hev2.elim
   | isTrue he=>
     rw [hk] at hev2
     subst he
     first
      | exact hev2.elim
      | (obtain ⟨hm,hv,hws⟩:=hev2;subst hv;subst hws;refine d9 h (?_:YV P (ev ρ) w _ (.int k _)) rfl
         first
          | exact f3k hx hy rfl
          | exact f1c hx hy rfl
          | exact f6w hx hy rfl
          | exact f8n hx hy rfl
          | exact o_or hx hy rfl
          | exact f8d hx hy rfl)
      | (obtain ⟨hm,hv,hws⟩:=hev2;subst hv;subst hws;refine d9 h (?_:YV P (ev ρ) w _ (.bool _)) rfl
         first
          | exact f0f hx hy rfl
          | exact f6k hx hy rfl
          | exact f6s hx hy rfl
          | exact e9e hx hy rfl
          | exact f8m hx hy rfl
          | exact f7p hx hy rfl)
      | (obtain ⟨c,hc,hm,hv,hws⟩:=hev2;subst hv;subst hws
         split at hc
         ·cases hc
         ·rename_i h0
          first
           | exact d9 h (f6i hx hy h0 (qH hc)) rfl
           | exact d9 h (f7g hx hy h0 (qH hc)) rfl)
 case str s=>
  cases b<;>try exact hev.elim
  rename_i s'
  have hx:ev ρ x= .string s:=hx
  have hy:ev ρ y= .string s':=hy
  cases op<;>first
   | exact hev.elim
   | (obtain ⟨c,hc,hm,rfl,rfl⟩:=hev;exact d9 h (f2c hx hy hc) rfl)
   | (obtain ⟨hm,rfl,rfl⟩:=hev;exact d9 h (f4q hx hy rfl) rfl)
   | (obtain ⟨hm,rfl,rfl⟩:=hev;exact d9 h (f4o hx hy rfl) rfl)
   | (obtain ⟨hm,rfl,rfl⟩:=hev
      refine d9 h (v:= .bool (Op.bytesLess s.toList s'.toList)) ?_ rfl
      simp [YV,execOp,hx,hy,eqGuard,binOp,Op.stringOp])
 case bool p=>
  cases b<;>try exact hev.elim
  rename_i p'
  have hx:ev ρ x= .bool p:=hx
  have hy:ev ρ y= .bool p':=hy
  simp only [f7v] at hev
  split at hev
  ·rename_i ht
   cases op<;>first
    | exact hev.elim
    | (obtain ⟨hm,rfl,rfl⟩:=hev;exact d9 h (f3b hx hy ht rfl) rfl)
    | (obtain ⟨hm,rfl,rfl⟩:=hev;exact d9 h (f3x hx hy ht rfl) rfl)
  ·exact hev.elim
theorem e9a (h:Rel E Z π σ ρ w) {op:UnOp} {t:TypeId} (hx:AVR (cx Z π σ w) a (ev ρ x)) (hev:(unQ op a:U.Q).Ev σ m0 m v ws):
  a39 P E σ ρ w ⟨d,.unOp op t x,ty,ps,af,g⟩ v ws:=by
 cases op<;>cases a<;>first
  | exact hev.elim
  | (obtain ⟨hm,rfl,rfl⟩:=hev
     first
      | exact d9 h (e2e hx rfl) rfl
      | exact d9 h (f74 hx rfl) rfl)
theorem b1u {t:TypeId} {dsc:TypeDesc} (h:P.underlying t=some dsc):(underlying t).run P w= .ok dsc w:=by
 simp [underlying,program,Sem.run,h,pure,bind,Sem.bind]
theorem d82 (h:Rel E Z π σ ρ w) {s t:TypeId} (hx:AVR (cx Z π σ w) a (ev ρ x)) (hev:(e9h P s t a).Ev σ m0 m v ws):
  a39 P E σ ρ w ⟨d,.convert s t x,ty,ps,af,g⟩ v ws:=by
 unfold e9h at hev
 split at hev
 ·rename_i k k' kk n hs ht
  obtain ⟨hm,rfl,rfl⟩:=hev
  refine d9 h (e7e (u:= .int k' (k'.wrap n)) hx ?_) rfl
  simp [convert,b1u hs,b1u ht,Conv.intToInt]
 ·rename_i bb hs ht
  obtain ⟨hm,rfl,rfl⟩:=hev
  refine d9 h (e7e (u:= .string bb) hx ?_) rfl
  simp [convert,b1u hs,b1u ht]
 ·exact hev.elim
theorem c95 (h:Rel E Z π σ ρ w) {i:Nat} (hx:AVR (cx Z π σ w) a (ev ρ x)) (hev:(match a with | .tup as=>(match as[i]? with | some a=>(Q.done a []:U.Q) | none=>Q.fail) | _=>(Q.fail:U.Q)).Ev σ m0 m v ws):
  a39 P E σ ρ w ⟨d,.extract x i,ty,ps,af,g⟩ v ws:=by
 cases a<;>try exact hev.elim
 rename_i as
 simp only at hev
 split at hev
 ·rename_i a1 ha1
  obtain ⟨hm,rfl,rfl⟩:=hev
  obtain ⟨vs,hv,hr⟩:=hx
  obtain ⟨u,hu,hru⟩:=hr.get ha1
  refine d9 h (d92 (u:=u) hv ?_) (AVR.of1 hru)
  simp [Instr.extract,hu]
 ·exact hev.elim
theorem e0g (h:Rel E Z π σ ρ w) {e p q:Bool} (hx:ev ρ x= .bool e) (hy:ev ρ y= .bool p) (hz:ev ρ z= .bool q):a39 P E σ ρ w ⟨d,.pick x y z,ty,ps,af,g⟩ (.bool (bif e then p else q):U.AV) []:=by
 cases e
 ·exact d9 h (d3a hx hz) rfl
 ·exact d9 h (d4u hx hy) rfl
theorem a6k {X:Cx} {a:U.AV} {v:Value} (hs:b5i a=true) (h:AVR X a v):a18 X a v:=by
 cases a<;>first | exact h | cases hs
theorem b34 {X:Cx}: ∀{as:List U.AV} {vs:List Value},as.all b5i=true -> m7 (AVR X) as vs -> m7 (a18 X) as vs
 | [],[],_,_=>trivial
 | a::as,v::vs,hs,h=>by
   simp only [List.all_cons,qB] at hs
   exact ⟨a6k hs.1 h.1,b34 hs.2 h.2⟩
 | [],_::_,_,hh=>hh.elim
 | _::_,[],_,hh=>hh.elim
theorem c7r (h:Rel E Z π σ ρ w) {f:FuncId} {cs:Array Operand} (hev:(e7s cs.toList fun as=>(match as.all b5i with | true=>(Q.done (.clo f as) []:U.Q) | false=>Q.fail)).Ev σ m0 m v ws):
  a39 P E σ ρ w ⟨d,.makeFunc (.func f) #[] cs,ty,ps,af,g⟩ v ws:=by
 obtain ⟨as,m1,has,hev⟩:=b98 h hev
 split at hev
 ·rename_i hs
  obtain ⟨hm,rfl,rfl⟩:=hev
  refine d9 h (d62 (cs:=(cs.toList.map (ev ρ)).toArray) (by apply Array.ext';simp)) ⟨_,rfl,b34 hs has⟩
 ·exact hev.elim
end
end
end Go.SX
namespace Go.SX
open Go Go.PL
section
variable {P:Program} {U:Uni} {X:Cx}
theorem b4q (l:List Value):l.toArray.toList=l:=by simp
theorem a7j (hU:UOK U) {G:Nat -> Prop} {w:World} {a:U.AV} {cs:List Value} (h:d7 Rp G w a cs):cs.length=asz a:=by
 cases a<;>simp only [d7] at h<;>first
  | (subst h;rfl)
  | exact (Rp _).len h
  | (obtain ⟨v,hv,_⟩:=h;subst hv;rfl)
  | (obtain ⟨ad,cs',hc,_⟩:=h;subst hc;rfl)
  | exact h.elim
theorem a8m (a:U.AV):osz (u9 a)=asz a:=by cases a<;>rfl
theorem a0k {a:U.AV} {cs:List Value} (h:d7 Rp X.G X.w a cs): ∃u,u.cells.toList=cs /\ a18 X a u:=by
 cases a<;>simp only [d7] at h<;>first
  | (subst h;exact ⟨_,rfl,rfl⟩)
  | (exact ⟨.agg cs.toArray,by simp [Value.cells],cs,rfl,h⟩)
  | (obtain ⟨v,hv,hr⟩:=h
     refine ⟨v,?_,hr⟩
     obtain ⟨a,cap,hs,_⟩:=j5.shape hr
     subst hs;subst hv;rfl)
  | (obtain ⟨ad,cs',hc,hb,hg,hca,hr⟩:=h
     subst hc
     exact ⟨.pointer (some ad),rfl,ad,cs',rfl,hb,hg,hca,.of0 hr⟩)
  | exact h.elim
theorem a8x {c:U.C} {l:List (U.T c)} {G:Nat -> Prop} {w:World} {u:Value} (h:j5 (Rp c) G w u l):u.cells.toList=[u]:=by
 obtain ⟨a,cap,hs,_⟩:=j5.shape h
 subst hs;rfl
theorem b1i {a:U.AV} {u:Value} (hk:b4v a=true \/ a= .nils) (h:a18 X a u):d7 Rp X.G X.w a u.cells.toList:=by
 cases a<;>first
  | (rcases hk with hk | hk<;>cases hk;done)
  | (have h:u=_:=h;subst h;rfl)
  | (obtain ⟨cs,hu,hr⟩:=h;subst hu;simpa [d7,Value.cells] using hr)
  | (exact ⟨u,a8x h,h⟩)
  | (have h:u=_:=h;subst h;simp [d7,Value.cells])
  | (obtain ⟨ad,cs,hu,hb,hg,hca,hr⟩:=h
     subst hu
     rcases hk with hk | hk
     ·exact ⟨ad,cs,rfl,hb,hg,hca,hr.to0 hk⟩
     ·cases hk)
theorem c02 {a b:U.AV} {cs:List Value} (hab:AEq a b) (h:d7 Rp X.G X.w a cs):d7 Rp X.G X.w b cs:=by
 rcases hab with rfl | ⟨rfl,c,rfl⟩
 ·exact h
 ·exact ⟨_,h,j5.nil _ _ _⟩
theorem d3p {a b:U.AV} {u:Value} (hab:AEq a b) (h:a18 X a u):a18 X b u:=by
 rcases hab with rfl | ⟨rfl,c,rfl⟩
 ·exact h
 ·have h:u=_:=h
  subst h;exact j5.nil _ _ _
theorem b89 (hU:UOK U) {G:Nat -> Prop} {w:World}: ∀{as:List U.AV} {css:List (List Value)},m7 (d7 Rp G w) as css -> css.flatten.length=((as.map u9).map osz).sum
 | [],[],_=>rfl
 | a::as,c::css,h=>by
   simp only [List.flatten_cons,qL,List.map_cons,List.sum_cons,b89 hU h.2,a8m,a7j hU h.1]
 | [],_::_,hh=>hh.elim
 | _::_,[],hh=>hh.elim
theorem c1p (hU:UOK U) {G:Nat -> Prop} {w:World} {c:U.C} {x:U.T c} {css:List (List Value)} (h:m7 (d7 Rp G w) (U.flds c x) css):(Rp c).rep G w css.flatten x:=
 a73.2 ⟨by rw [b89 hU h,hU.lay,<- hU.sum],css,rfl,h⟩
theorem b8d (hU:UOK U) {G:Nat -> Prop} {w:World} {c:U.C} {x:U.T c} {cs:List Value} (h:(Rp c).rep G w cs x) {n:Nat} {b:U.AV} (hb:(U.flds c x)[n]? =some b):
  d7 Rp G w b ((cs.drop (off c n)).take (asz b)) /\ off c n+asz b <= cs.length:=by
 obtain ⟨hl,css,rfl,hh⟩:=a73.1 h
 have key: ∀(as:List U.AV) (css:List (List Value)) (n:Nat) (b:U.AV),m7 (d7 Rp G w) as css -> as[n]? =some b ->
   d7 Rp G w b ((css.flatten.drop ((((as.map u9).take n).map osz).sum)).take (asz b)) /\ (((as.map u9).take n).map osz).sum+asz b <= css.flatten.length:=by
  intro as
  induction as with
  | nil=>intro css n b _ hb;simp at hb
  | cons a as ih=>
    intro css n b h hb
    cases css with
    | nil=>exact h.elim
    | cons c css=>
      have hc:=a7j hU h.1
      cases n with
      | zero=>
        simp at hb;subst hb
        simp only [List.take_zero,List.map_nil,List.sum_nil,List.drop_zero,List.flatten_cons,Nat.zero_add]
        rw [<- hc,List.take_left]
        exact ⟨h.1,by simp⟩
      | succ n=>
        obtain ⟨h1,h2⟩:=ih css n b h.2 (by simpa using hb)
        simp only [List.map_cons,List.take_succ_cons,List.map_cons,List.sum_cons,List.flatten_cons,a8m]
        refine ⟨?_,by rw [qL,hc];omega⟩
        rw [<- hc,List.drop_append,List.drop_eq_nil_of_le (by omega),List.nil_append]
        rw [show c.length+(((as.map u9).take n).map osz).sum-c.length=(((as.map u9).take n).map osz).sum by omega]
        exact h1
 have:=key _ _ n b hh hb
 rw [hU.lay] at this
 exact this
theorem e2k (hU:UOK U) {c:U.C} {x:U.T c} {n:Nat} {b:U.AV} (hb:(U.flds c x)[n]? =some b):(U.lay c)[n]? =some (u9 b):=by
 rw [<- hU.lay c x,List.getElem?_map,hb];rfl
theorem d10 (hU:UOK U) {c:U.C} {x:U.T c} {cs:List Value} (h:(Rp c).rep X.G X.w cs x): ∃u,u.cells.toList=cs /\ a18 X (inj c x) u:=by
 unfold inj
 cases ha:U.ag c with
 | true=>exact ⟨.agg cs.toArray,by simp [Value.cells],cs,rfl,h⟩
 | false=>
   obtain ⟨hl,css,rfl,hh⟩:=a73.1 h
   have hlay:=hU.lay c x
   rw [hU.sc c ha] at hlay
   cases hf:U.flds c x with
   | nil=>rw [hf] at hlay;simp at hlay
   | cons a r=>
     rw [hf] at hh hlay
     cases r with
     | cons _ _=>simp at hlay
     | nil=>
       cases css with
       | nil=>exact hh.elim
       | cons s css=>cases css with
         | nil=>obtain ⟨u,hu,hr⟩:=a0k hh.1;exact ⟨u,by simpa using hu,hr⟩
         | cons _ _=>exact hh.2.elim
theorem a15 (hU:UOK U) (c:U.C) (x:U.T c):b4v (inj c x)=true /\ a6c (inj c x)=U.ag c /\ asz (inj c x)=U.n c:=by
 unfold inj
 cases ha:U.ag c with
 | true=>exact ⟨rfl,rfl,rfl⟩
 | false=>
   have hlay:=hU.lay c x
   have hk:=hU.kind c x
   have hs:=hU.sum c
   rw [hU.sc c ha] at hlay hs
   cases hf:U.flds c x with
   | nil=>rw [hf] at hlay;simp at hlay
   | cons a r=>
     rw [hf] at hk hlay
     cases r with
     | cons _ _=>simp at hlay
     | nil=>
       have hk1:b4v a=true:=by simpa using hk
       have hc:u9 a=none:=by simpa using hlay
       refine ⟨hk1,?_,?_⟩
       ·cases a<;>first | rfl | cases hc
       ·show asz a=U.n c
        rw [<- a8m,hc,hs];rfl
theorem d8n {G:Nat -> Prop} {w:World} {c c':U.C} {x':U.T c'} {x:U.T c} (h:cst c x'=some x) {cs:List Value} (hr:(Rp c').rep G w cs x'):(Rp c).rep G w cs x:=by
 unfold cst at h
 split at h
 ·rename_i he _
  subst he
  cases h;exact hr
 ·cases h
theorem a2b {G:Nat -> Prop} {w:World} {c c':U.C} {x':List (U.T c')} {x:List (U.T c)} (h:b44 c x'=some x): ∃he:c'=c,x=he▸x':=by
 unfold b44 at h
 split at h
 ·rename_i he _;subst he;cases h;exact ⟨rfl,rfl⟩
 ·cases h
theorem a18.of0 {a:U.AV} {u:Value} (h:b37 X a u):a18 X a u:=by
 cases a<;>first
  | exact h
  | exact h.elim
theorem a18.to0 {a:U.AV} {u:Value} (hp:u7 a=true) (h:a18 X a u):b37 X a u:=by
 cases a<;>first
  | exact h
  | (cases hp;done)
theorem c60 (hU:UOK U) {X:Cx} {c:U.C} {yv:U.T c} {as:List U.AV} {css:List (List Value)} (hk:U.mkv c as=some yv) (h:m7 (fun a s=> ∃u,u.cells.toList=s /\ a18 X a u) as css):(Rp c).rep X.G X.w css.flatten yv:=by
 have h1:=hU.mkl c as yv hk
 have h2:=hU.kind c yv
 refine c1p hU ?_
 generalize hf:U.flds c yv=fs at h1 h2
 clear hk hf
 induction as generalizing css fs with
 | nil=>
   cases css with
   | nil=>cases fs with
     | nil=>trivial
     | cons _ _=>exact h1.elim
   | cons _ _=>exact h.elim
 | cons a as ih=>
   cases css with
   | nil=>exact h.elim
   | cons s css=>cases fs with
     | nil=>exact h1.elim
     | cons b fs=>
       simp only [List.all_cons,qB] at h2
       obtain ⟨u,hu,hr⟩:=h.1
       have hka:b4v a=true \/ a= .nils:=by
        rcases h1.1 with rfl | ⟨rfl,_⟩
        ·exact .inl h2.1
        ·exact .inr rfl
       exact ⟨c02 h1.1 (by rw [<- hu];exact b1i hka hr),ih h.2 fs h1.2 h2.2⟩
theorem d15 (hU:UOK U) {c:U.C} {yv:U.T c} {as:List U.AV} {css:List (List Value)} (hk:U.mkv c as=some yv) (h:m7 (fun a s=> ∃u:Value,u.cells.toList=s /\ b37 X a u) as css):(Rp c).rep X.G X.w css.flatten yv:=
 c60 hU hk (h.mono fun _ _ ⟨u,hu,hh⟩=>⟨u,hu,.of0 hh⟩)
theorem e0v (hU:UOK U) {c:U.C} {yv:U.T c} {as:List U.AV} (hk:U.mkv c as=some yv):as.all u7=true /\ as.map u9=U.lay c:=by
 have h1:=hU.mkl c as yv hk
 have h2:=hU.kind c yv
 have h3:=hU.lay c yv
 rw [<- h3]
 generalize U.flds c yv=fs at h1 h2
 clear hk h3
 induction as generalizing fs with
 | nil=>cases fs with
   | nil=>exact ⟨rfl,rfl⟩
   | cons _ _=>exact h1.elim
 | cons a as ih=>cases fs with
   | nil=>exact h1.elim
   | cons b fs=>
     simp only [List.all_cons,qB] at h2
     obtain ⟨g1,g2⟩:=ih fs h1.2 h2.2
     have key:u7 a=true /\ u9 a=u9 b:=by
      rcases h1.1 with rfl | ⟨rfl,c,rfl⟩
      ·refine ⟨?_,rfl⟩
       have h2:=h2.1
       cases a<;>first | rfl | cases h2
      ·exact ⟨rfl,rfl⟩
     simp only [List.all_cons,qB,List.map_cons]
     exact ⟨⟨key.1,g1⟩,by rw [key.2,g2]⟩
theorem b81 {X:Cx} {a:U.AV} {u:Value} (hp:u7 a=true) (h:b37 X a u):u.cells.toList.length=asz a:=by
 cases a<;>first
  | (cases hp;done)
  | (have h:u=_:=h;subst h;rfl)
  | (obtain ⟨cs,rfl,hr⟩:=h
     show cs.toArray.toList.length=U.n _
     rw [b4q];exact (Rp _).len hr)
  | (rw [a8x h];rfl)
  | (obtain ⟨ad,cs,rfl,_⟩:=h;rfl)
  | (obtain ⟨_,_,h1⟩:=h
     have:u.cells.toList=[u]:=by cases u<;>first | rfl | cases h1
     rw [this];rfl)
theorem c7u {b:U.AV}: ∀{as:List U.AV} {css:List (List Value)} {n:Nat},m7 (fun a s=> ∃u:Value,u.cells.toList=s /\ b37 X a u) as css -> as.all u7=true -> as[n]? =some b ->
  ∃u,b37 X b u /\ (css.flatten.drop ((((as.map u9).take n).map osz).sum)).take (asz b)=u.cells.toList /\ (((as.map u9).take n).map osz).sum+asz b <= css.flatten.length /\ u7 b=true
 | [],_,n,_,_,hb=>by simp at hb
 | a::as,[],n,h,_,_=>h.elim
 | a::as,c::css,n,h,hp,hb=>by
   simp only [List.all_cons,qB] at hp
   obtain ⟨u,hu,hr⟩:=h.1
   have hc:=b81 hp.1 hr
   rw [hu] at hc
   cases n with
   | zero=>
     simp at hb;subst hb
     refine ⟨u,hr,?_,?_,hp.1⟩
     ·simp only [List.take_zero,List.map_nil,List.sum_nil,List.drop_zero,List.flatten_cons]
      rw [<- hc,List.take_left,hu]
     ·simp [hc]
   | succ n=>
     obtain ⟨u1,h1,h2,h3,h4⟩:=c7u h.2 hp.2 (n:=n) (by simpa using hb)
     refine ⟨u1,h1,?_,?_,h4⟩
     ·simp only [List.map_cons,List.take_succ_cons,List.sum_cons,List.flatten_cons,a8m]
      rw [<- hc,List.drop_append,List.drop_eq_nil_of_le (by omega),List.nil_append]
      rw [show c.length+(((as.map u9).take n).map osz).sum-c.length=(((as.map u9).take n).map osz).sum by omega]
      exact h2
     ·simp only [List.map_cons,List.take_succ_cons,List.sum_cons,List.flatten_cons,a8m,qL]
      omega
theorem e71 {as:List U.AV} {css:List (List Value)} (h:m7 (fun a s=> ∃u:Value,u.cells.toList=s /\ b37 X a u) as css) (hp:as.all u7=true):css.flatten.length=((as.map u9).map osz).sum:=by
 induction as generalizing css with
 | nil=>cases css with
   | nil=>rfl
   | cons _ _=>exact h.elim
 | cons a as ih=>cases css with
   | nil=>exact h.elim
   | cons c css=>
     simp only [List.all_cons,qB] at hp
     obtain ⟨u,hu,hr⟩:=h.1
     have hc:=b81 hp.1 hr
     rw [hu] at hc
     simp only [List.flatten_cons,qL,List.map_cons,List.sum_cons,ih h.2 hp.2,a8m,hc]
theorem b3t (hU:UOK U) {c:U.C} {a:U.AV} {x:U.T c} (h:prj c a=some x) {u:Value} (hr:a18 X a u):(Rp c).rep X.G X.w u.cells.toList x:=by
 unfold prj at h
 cases ha:U.ag c with
 | true=>
   rw [ha] at h
   cases a<;>try (cases h;done)
   case val c' x'=>
    obtain ⟨cs,hu,hc⟩:=hr
    subst hu
    simpa [Value.cells] using d8n h hc
   case st c' as=>
    obtain ⟨css,hu,_,_,hc⟩:=hr
    subst hu
    dsimp only at h
    split at h
    ·rename_i x' hk
     simpa [Value.cells] using d8n h (d15 hU hk hc)
    ·cases h
 | false=>
   rw [ha] at h
   have hk:=hU.mkl c [a] x h
   have hkind:=hU.kind c x
   have hf: ∃b,U.flds c x=[b] /\ AEq a b:=by
    cases hl:U.flds c x with
    | nil=>rw [hl] at hk;exact hk.elim
    | cons b r=>rw [hl] at hk;cases r with
      | nil=>exact ⟨b,rfl,hk.1⟩
      | cons _ _=>exact hk.2.elim
   obtain ⟨b,hb,hab⟩:=hf
   have hfa:b4v a=true \/ a= .nils:=by
    rcases hab with rfl | ⟨rfl,_⟩
    ·rw [hb] at hkind;exact .inl (by simpa using hkind)
    ·exact .inr rfl
   have h1:=c1p hU (c:=c) (x:=x) (css:=[u.cells.toList]) (G:=X.G) (w:=X.w) (by rw [hb];exact ⟨c02 hab (b1i hfa hr),trivial⟩)
   simpa using h1
theorem c0v (hU:UOK U) {c:U.C} {a:U.AV} {x:U.T c} (h:prj c a=some x):asz a=U.n c /\ a6c a=U.ag c:=by
 unfold prj at h
 cases ha:U.ag c with
 | true=>
   rw [ha] at h
   have key: ∀{c':U.C} {x':U.T c'},cst c x'=some x -> c'=c:=fun h=>by
    unfold cst at h
    split at h
    ·assumption
    ·cases h
   cases a<;>try (cases h;done)
   case val c' x'=>
    have:=key h
    subst this;exact ⟨rfl,rfl⟩
   case st c' as=>
    dsimp only at h
    split at h
    ·have:=key h
     subst this;exact ⟨rfl,rfl⟩
    ·cases h
 | false=>
   rw [ha] at h
   have hk:=hU.mkl c [a] x h
   have hs:=hU.sum c
   have hlay:=hU.lay c x
   rw [hU.sc c ha] at hs hlay
   cases hl:U.flds c x with
   | nil=>rw [hl] at hk;exact hk.elim
   | cons b r=>
     rw [hl] at hk hlay
     have hc:u9 b=none:=by
      cases r with
      | nil=>simpa using hlay
      | cons _ _=>simp at hlay
     have hca:u9 a=none:=by
      rcases hk.1 with rfl | ⟨rfl,_⟩
      ·exact hc
      ·rfl
     refine ⟨by rw [<- a8m,hca,hs];rfl,?_⟩
     cases a<;>first | rfl | cases hca
def Loc (X:Cx) (a:U.AV) (ad:Addr):Prop:= ∃u,a18 X a u /\ CA X.w ad u.cells.toList
theorem b7v (hU:UOK U) {G:Nat -> Prop} {w:World} {c:U.C}: ∀(l:List (U.T c)) (css:List (List Value)) (k:Nat),m7 (d7 Rp G w) (l.map (inj c)) css -> k <= l.length -> (css.take k).flatten.length=k*U.n c
 | [],[],k,_,h=>by simp at h;subst h;simp
 | [],_::_,_,h,_=>h.elim
 | _::_,[],_,h,_=>h.elim
 | y::l,s::css,0,_,_=>by simp
 | y::l,s::css,k+1,h,hk=>by
   have h1:=a7j hU h.1
   rw [(a15 hU c y).2.2] at h1
   simp only [List.take_succ_cons,List.flatten_cons,qL,h1,b7v hU l css k h.2 (by simpa using hk)]
   rw [Nat.add_mul];omega
theorem b7w {α β:Type} {l:List α} {n:Int} {y:α} (f:α -> β) (h:c8 l n=some y):0 <= n /\ (l.map f)[n.toNat]? =some (f y) /\ n.toNat<l.length:=by
 obtain ⟨h0,h1,h2⟩:=b33 h
 exact ⟨h0,by rw [List.getElem?_map,h2];rfl,(qD.1 h2).1⟩
theorem f03 (hU:UOK U) {ca:U.C} (hA:U.isA ca=true) (x:U.T ca) {k:Nat} (hk:k <= (U.al ca x).length):off ca k=k*U.n (U.ae ca):=by
 have key: ∀(l:List (U.T (U.ae ca))) (k:Nat),k <= l.length -> ((((l.map (inj (U.ae ca))).map u9).take k).map osz).sum=k*U.n (U.ae ca):=by
  intro l
  induction l with
  | nil=>intro k h;simp at h;subst h;simp
  | cons y l ih=>
    intro k h
    cases k with
    | zero=>simp
    | succ k=>
      have:=ih k (by simpa using h)
      simp only [List.map_cons,List.take_succ_cons,List.sum_cons,a8m,(a15 hU (U.ae ca) y).2.2]
      rw [this,Nat.add_mul];omega
 have:=key (U.al ca x) k hk
 rw [<- (hU.arr ca x hA).1,hU.lay ca x] at this
 exact this
theorem c74 (hU:UOK U) {ca:U.C} {x:U.T ca} (hA:U.isA ca=true) {u:Value} (hr:a18 X (.val ca x) u) {ad:Addr} (hc:CA X.w ad u.cells.toList) {n:Int} {y:U.T (U.ae ca)} (hy:c8 (U.al ca x) n=some y):Loc X (inj (U.ae ca) y) (ad.add (n.toNat*U.n (U.ae ca))):=by
 obtain ⟨cs,hu,hr⟩:=hr
 obtain ⟨_,css,hcs,hall⟩:=a73.1 hr
 rw [(hU.arr ca x hA).1] at hall
 obtain ⟨_,h1,h2⟩:=b7w (inj (U.ae ca)) hy
 obtain ⟨s,hs,hf⟩:=hall.get h1
 have ht:=b7v hU (U.al ca x) css n.toNat hall (Nat.le_of_lt h2)
 obtain ⟨u1,hu1,hr1⟩:=a0k hf
 refine ⟨u1,hr1,?_⟩
 have hsub:(css.flatten.drop (n.toNat*U.n (U.ae ca))).take s.length=s:=by
  rw [<- ht]
  clear ht h1 h2 hf hall hr hcs hy
  generalize n.toNat=k at hs
  induction css generalizing k with
  | nil=>simp at hs
  | cons c css ih=>cases k with
    | zero=>simp at hs;subst hs;simp
    | succ k=>
      simp only [List.take_succ_cons,List.flatten_cons,qL]
      rw [List.drop_length_add_append]
      exact ih k (by simpa using hs)
 rw [hu1,<- hsub]
 subst hu
 rw [hcs] at hc
 refine CA.sub ?_ _ _
 simpa [Value.cells] using hc
theorem d1k {c:U.C} {y:U.T c} {p:List PE} {b:U.AV} (hU:UOK U) (hn:nav (inj c y) p=some b):p=[] \/ ∃x,(inj c y)=(.val c x:U.AV):=by
 cases ha:U.ag c with
 | true=>right;exact ⟨y,by simp [inj,ha]⟩
 | false=>
   left
   cases p with
   | nil=>rfl
   | cons q p=>
     have h2:=(a15 hU c y).2.1
     rw [ha] at h2
     cases hi:inj c y<;>rw [hi] at hn h2<;>first
      | (cases hn;done)
      | (cases h2;done)
      | (cases q<;>cases hn)
theorem e17 {α:Type} {l:List α} {n:Int} (h0:0 <= n) (h1:n<(l.length:Int)): ∃y,c8 l n=some y:=by
 unfold c8
 rw [if_pos h0]
 exact ⟨_,qG (by omega)⟩
theorem c37 (hU:UOK U) {X:Cx}: ∀(p:List PE) (a:U.AV) (c:U.C) (ad:Addr) (b:U.AV),Loc X a ad -> (p=[] \/ u9 a=some c) -> okV c p -> nav a p=some b -> Loc X b (ad.add (b0k c p))
 | [],a,c,ad,b,h,_,_,hn=>by
   cases hn
   simpa [b0k,Addr.add] using h
 | .f n::p,a,c,ad,b,h,hc,hok,hn=>by
   replace hc:u9 a=some c:=hc.resolve_left (fun h=>by cases h)
   have fin: ∀b1:U.AV,(U.lay c)[n]? =some (u9 b1) -> nav b1 p=some b -> Loc X b1 (ad.add (off c n)) -> Loc X b (ad.add (b0k c (.f n::p))):=by
    intro b1 hcode hn hl1
    simp only [b0k,hcode]
    simp only [okV,hcode] at hok
    rw [<- Addr.add_add]
    cases hcb:u9 b1 with
    | some c1=>rw [hcb] at hok;exact c37 hU p b1 c1 _ b hl1 (.inr hcb) hok hn
    | none=>
      cases p with
      | nil=>cases hn;simpa [Addr.add] using hl1
      | cons q p=>cases b1<;>first
        | (cases hcb;done)
        | (cases q<;>cases hn)
   cases a<;>try (cases hc;done)
   case val c' x=>
    cases hc
    simp only [nav] at hn
    cases hb:(U.flds c x)[n]? with
    | none=>rw [hb] at hn;cases hn
    | some b1=>
      rw [hb] at hn
      obtain ⟨u,⟨cs,hu,hr⟩,hca⟩:=h
      subst hu
      simp only [Value.cells,b4q] at hca
      obtain ⟨h1,h2⟩:=b8d hU hr hb
      obtain ⟨u1,hu1,hr1⟩:=a0k h1
      exact fin b1 (e2k hU hb) hn ⟨u1,hr1,by rw [hu1];exact CA.sub hca _ _⟩
   case st c' as=>
    cases hc
    simp only [nav] at hn
    cases hb:as[n]? with
    | none=>rw [hb] at hn;cases hn
    | some b1=>
      rw [hb] at hn
      obtain ⟨u,⟨css,hu,hlay,hp,hr⟩,hca⟩:=h
      subst hu
      simp only [Value.cells,b4q] at hca
      obtain ⟨u1,h1,h2,h3,_⟩:=c7u hr hp hb
      rw [hlay] at h2 h3
      refine fin b1 ?_ hn ⟨u1,.of0 h1,?_⟩
      ·rw [<- hlay,List.getElem?_map,hb];rfl
      ·rw [<- h2];exact CA.sub hca _ _
 | .i n::p,a,c,ad,b,h,hc,hok,hn=>by
   cases a<;>try (cases hn;done)
   rename_i c' x
   replace hc:c'=c:=qH (hc.resolve_left (fun h=>by cases h))
   subst hc
   simp only [nav] at hn
   split at hn
   ·rename_i hA
    obtain ⟨h0,h1,hok⟩:=hok
    obtain ⟨y,hy⟩:=e17 (l:=U.al c' x) h0 (by rw [(hU.arr c' x hA).2];exact h1)
    rw [hU.gt c' x n y hA hy] at hn
    obtain ⟨u,hu,hca⟩:=h
    have hl:=c74 hU hA hu hca hy
    have:=c37 hU p (inj (U.ae c') y) (U.ae c') _ b hl ((d1k hU hn).imp_right fun ⟨x,hx⟩=>by rw [hx];rfl) hok hn
    simp only [b0k]
    rw [<- Addr.add_add];exact this
   ·cases hn
section
variable {E:Env} {Z:Nat -> Prop} {π:Nat -> Value} {σ:U.St} {ρ:Nat -> Value} {w:World}
variable {d:Option Tmp} {ty:TypeId} {ps:String} {af:Array Edge} {g:Option (Nat×Bool)} {x y z:Operand} {m0 m:Nat} {a b c v:U.AV} {ws:List (Nat×U.MC)} {fr:Nat}
theorem b19 {t:TypeId} {n:Nat} (h:d5f P t n=true) {w:World}:(sizeOf t).run P w= .ok n w:=by
 unfold d5f at h
 split at h
 ·rename_i i hi
  have:=qC h
  subst this
  simp [sizeOf,typeInfo,program,Sem.run,hi,pure,bind,Sem.bind]
 ·cases h
theorem b4b {t:TypeId} {b:Bool} (h:f1g P t b=true) {w:World}:(isAgg t).run P w= .ok b w:=by
 unfold f1g at h
 split at h
 ·rename_i fs hu;subst h;simp [isAgg,b1u hu]
 ·rename_i n e hu;subst h;simp [isAgg,b1u hu]
 ·rename_i dsc h1 h2 hu
  cases b with
  | true=>cases h
  | false=>
    simp only [isAgg,Sem.run_bind,b1u hu,Result.andThen_ok]
    cases dsc<;>first
     | rfl
     | exact absurd rfl (h1 _)
     | exact absurd rfl (h2 _ _)
 ·cases h
theorem b5b {u:Value} (h:u.oneCell'=true):u.cells.toList=[u]:=by
 cases u<;>first | rfl | cases h
theorem c1k (hU:UOK U) {t:TypeId} {ad:Addr} {u:Value} (hf:b0e P t a=true) (hr:a18 X a u) (hca:CA X.w ad u.cells.toList):(Instr.loadAt t (.pointer (some ad))).run P X.w= .ok u X.w:=by
 unfold b0e at hf
 simp only [qB] at hf
 obtain ⟨⟨hp,hag⟩,hs⟩:=hf
 cases hv:a6c a with
 | true=>
   rw [hv] at hag
   cases a<;>try (cases hv;done)
   case val c x=>
    obtain ⟨cs,rfl,hc⟩:=hr
    have hl:=(Rp c).len hc
    refine c8z (P:=P) (t:=t) (n:=U.n c) (cs:=cs) ?_ hl (by simpa [Value.cells] using hca)
    simp [Instr.loadAt,Instr.sureAddr,loadVar,b4b hag,b19 hs,asz]
   case st c as=>
    obtain ⟨css,rfl,hlay,hpp,hc⟩:=hr
    have hl:=e71 hc hpp
    rw [hlay,<- hU.sum] at hl
    refine c8z (P:=P) (t:=t) (n:=U.n c) (cs:=css.flatten) ?_ hl (by simpa [Value.cells] using hca)
    simp [Instr.loadAt,Instr.sureAddr,loadVar,b4b hag,b19 hs,asz]
 | false=>
   rw [hv] at hag
   have hu:u.cells.toList=[u]:=by
    cases a<;>first
     | (cases hp;done)
     | (cases hv;done)
     | (have hr:u=_:=hr;subst hr;rfl)
     | exact a8x hr
     | (obtain ⟨ad,cs,hr,_⟩:=hr;subst hr;rfl)
     | (obtain ⟨_,_,h1⟩:=hr;exact b5b h1)
   rw [hu] at hca
   exact d7u (by simp [Instr.loadAt,Instr.sureAddr,loadVar,b4b hag]) hca
theorem d3i (hU:UOK U) {t:TypeId} {ad:Addr} (hf:b0e P t a=true) (h:Loc X a ad): ∃u,a18 X a u /\ (Instr.loadAt t (.pointer (some ad))).run P X.w= .ok u X.w:=by
 obtain ⟨u,hr,hca⟩:=h
 exact ⟨u,hr,c1k hU hf hr hca⟩
end
end
end Go.SX
namespace Go.SX
open Go Go.PL
section
variable {P:Program} {U:Uni} {E:Env} {Z:Nat -> Prop} {π:Nat -> Value} {σ:U.St} {ρ:Nat -> Value} {w:World}
variable {d:Option Tmp} {ty:TypeId} {ps:String} {af:Array Edge} {g:Option (Nat×Bool)} {x y z:Operand} {m0 m:Nat} {a b v:U.AV} {ws:List (Nat×U.MC)} {fr:Nat}
theorem b4x {c c':U.C} (h:eqC c c'=true):c=c':=by
 unfold eqC at h
 split at h
 ·assumption
 ·cases h
theorem Own.elem {n:Nat} {e:TypeId} {css:List (Raw n)} {u:Value} (hO:Own 0 e n Subtype.val w u css) {i:Int} {r:Raw n} (hi:c8 css i=some r):
  ∃ad cap,u= .slice (some ad) css.length cap /\ (0 <= i /\ i<(css.length:Int)) /\ CA w (ad.add (i.toNat*n)) r.1:=by
 obtain ⟨h0,h1,h2⟩:=b33 hi
 obtain ⟨ad,cap,hv,hc,hm⟩:=hO.shape
 cases ad with
 | none=>
   rcases hO with ⟨_,hl⟩ | ⟨g,o,cap',cur,hv',_⟩
   ·subst hl;simp at h2
   ·rw [hv] at hv';simp at hv'
 | some ad=>exact ⟨ad,cap,hv,⟨h0,h1⟩,CA.elem n (fun r=>r.2.1) (hO.ca hv) hi⟩
theorem b8i {α β:Type} {p:α -> β -> Prop} {l:List α} {r:List β} (h:m7 p l r) {i:Int} {y:β} (hy:c8 r i=some y): ∃x,c8 l i=some x /\ p x y:=by
 obtain ⟨h0,h1,h2⟩:=b33 hy
 obtain ⟨x,hx,hp⟩:=h.getR h2
 exact ⟨x,by unfold c8;rw [if_pos h0];exact hx,hp⟩
theorem e8c (hU:UOK U) {X:Cx} {c:U.C} {y:U.T c} {cs:List Value} (hr:(Rp c).rep X.G X.w cs y) {ad:Addr} (hc:CA X.w ad cs):Loc X (inj c y) ad:=by
 obtain ⟨u,hu,hv⟩:=d10 hU hr
 exact ⟨u,hv,by rw [hu];exact hc⟩
theorem d4h (hU:UOK U) (h:Rel E Z π σ ρ w) {id:Nat} {c:U.C} {p:List PE} {k:U.AV -> U.Q} (hc:p=[] \/ b5c c (σ.mem id) p=true) (hok:okP c p) (hev:(e6p (σ.mem id) p k).Ev σ m0 m v ws):
  ∃b,(k b).Ev σ m0 m v ws /\ ∀ad,b9b (π id)=some ad -> Loc (cx Z π σ w) b (ad.add (c51 c p)):=by
 have hm:=h.mem id
 cases hmem:σ.mem id<;>rw [hmem] at hev hm hc<;>try exact hev.elim
 case box t a0=>
  have gen:(match nav a0 p with | some b=>k b | none=> .fail:U.Q).Ev σ m0 m v ws -> (p=[] \/ u9 a0=some c) -> okV c p -> ∃b,(k b).Ev σ m0 m v ws /\ ∀ad,b9b (π id)=some ad -> Loc (cx Z π σ w) b (ad.add (b0k c p)):=by
   intro hev hc hok
   cases hn:nav a0 p with
   | none=>rw [hn] at hev;exact hev.elim
   | some b=>
     rw [hn] at hev
     refine ⟨b,hev,fun ad had=> ?_⟩
     obtain ⟨blk,u,hv,hM,ha⟩:=hm
     rw [hv] at had
     cases had
     exact c37 hU p a0 c _ b ⟨u,ha,hM.ca⟩ hc hok hn
  have gen2: ∀a0':U.AV,a0=a0' -> e9m c (.box t a0')=true -> u9 a0'=some c:=by
   intro a0' _ hc
   cases a0'<;>try (cases hc;done)
   all_goals
    have:=b4x hc
    subst this
    rfl
  cases p with
  | nil=>exact gen (by cases a0<;>exact hev) (.inl rfl) trivial
  | cons q p=>
    replace hc:b5c c (.box t a0) (q::p)=true:=hc.resolve_left (fun h=>by cases h)
    cases q with
    | f n=>exact gen (by cases a0<;>exact hev) (.inr (gen2 a0 rfl (by cases a0<;>exact hc))) hok
    | i n=>
      have plain:nav a0 (.i n::p)=none -> (match nav a0 (.i n::p) with | some b=>k b | none=> .fail:U.Q).Ev σ m0 m v ws -> ∃b,(k b).Ev σ m0 m v ws /\ ∀ad,b9b (π id)=some ad -> Loc (cx Z π σ w) b (ad.add (c51 c (.i n::p))):=by
       intro hn hev
       rw [hn] at hev;exact hev.elim
      cases a0<;>try exact plain rfl hev
      rename_i ca x
      have hev:(match U.isA ca with
       | true=>Q.opt (c8 (U.al ca x) n) fun y=>(match nav (inj (U.ae ca) y) p with | some b=>k b | none=> .fail)
       | false=>(.fail:U.Q)).Ev σ m0 m v ws:=hev
      have hc:(U.isA ca&&eqC c (U.ae ca))=true:=hc
      simp only [qB] at hc
      rw [hc.1] at hev
      obtain ⟨y,hy,hev⟩:=hev
      have hcc:=b4x hc.2
      subst hcc
      dsimp only at hev
      cases hn:nav (inj (U.ae ca) y) p with
      | none=>rw [hn] at hev;exact hev.elim
      | some b=>
        rw [hn] at hev
        refine ⟨b,hev,fun ad had=> ?_⟩
        obtain ⟨blk,u,hv,hM,ha⟩:=hm
        rw [hv] at had
        cases had
        have h1:=c74 hU hc.1 ha hM.ca hy
        have:=c37 hU p (inj (U.ae ca) y) (U.ae ca) _ b h1 ((d1k hU hn).imp_right fun ⟨x,hx⟩=>by rw [hx];rfl) hok hn
        rw [Addr.add_add] at this
        exact this
 case sl e c' l=>
  cases p with
  | nil=>exact hev.elim
  | cons q p=>
    cases q with
    | f n=>exact hev.elim
    | i n=>
      have hc:eqC c c'=true:=by
       rcases hc with hc | hc
       ·cases hc
       ·exact hc
      have:=b4x hc
      subst this
      obtain ⟨y,hy,hev⟩:=hev
      dsimp only at hev
      cases hn:nav (inj c y) p with
      | none=>rw [hn] at hev;exact hev.elim
      | some b=>
        rw [hn] at hev
        refine ⟨b,hev,fun ad had=> ?_⟩
        obtain ⟨css,hO,hr⟩:=hm
        obtain ⟨r,hr1,hrep⟩:=b8i hr hy
        obtain ⟨ad',cap,hv,_,hca⟩:=Own.elem hO hr1
        rw [hv] at had
        cases had
        have:=c37 hU p (inj c y) c _ b (e8c hU hrep hca) ((d1k hU hn).imp_right fun ⟨x,hx⟩=>by rw [hx];rfl) hok hn
        rw [Addr.add_add] at this
        exact this
theorem b65 (hU:UOK U) (h:Rel E Z π σ ρ w) {t:TypeId} {ad:Addr} (hx:ev ρ x= .pointer (some ad)) (hf:b0e P t b=true) (hL:Loc (cx Z π σ w) b ad):a39 P E σ ρ w ⟨d,.load t x,ty,ps,af,g⟩ b []:=by
 obtain ⟨u,hu,hr⟩:=d3i hU hf hL
 exact d9 h (c5g hx hr) (AVR.of1 hu)
theorem e4v {t:TypeId} (h:f1o P t=true): ∃n,n≠0 /\ (sizeOf t).run P w= .ok n w:=by
 unfold f1o at h
 split at h
 ·rename_i i hi
  refine ⟨i.size,fun h0=> ?_,by simp [sizeOf,typeInfo,program,Sem.run,hi,pure,bind,Sem.bind]⟩
  rw [h0] at h;cases h
 ·cases h
theorem b72 {s:TypeId} {fs:Array Field} {f:Nat} {fl:Field} {ad:Addr} (hs:P.underlying s=some (.struct fs)) (hf:fs[f]? =some fl) (hp:f1o P fl.type=true):
  (Instr.fieldAt s (.pointer (some ad)) f).run P w= .ok (.pointer (some (ad.add fl.offset))) w:=by
 obtain ⟨n,h0,hn⟩:=e4v (w:=w) hp
 simp [Instr.fieldAt,b1u hs,hf,Instr.sureAddr,fieldPlace,hn,h0]
theorem d5o (hU:UOK U) (h:Rel E Z π σ ρ w) {s:TypeId} {f:Nat} (hx:AVR (cx Z π σ w) a (ev ρ x)) (hev:(e0h P s f a).Ev σ m0 m v ws):a39 P E σ ρ w ⟨d,.fieldAddr s x f,ty,ps,af,g⟩ v ws:=by
 unfold e0h at hev
 split at hev
 case h_2=>exact hev.elim
 rename_i fs hs
 split at hev
 case h_2=>exact hev.elim
 rename_i fl hf
 split at hev
 ·rename_i c yv
  split at hev
  ·rename_i b hc hb
   obtain ⟨hm1,rfl,rfl⟩:=hev
   simp only [qB] at hc
   have ho:=qC hc.1
   obtain ⟨ad,cs,hv,hblk,hg,hca,hr⟩:=hx
   obtain ⟨h1,h2⟩:=b8d hU hr hb
   refine d9 h (b6x hv (b72 hs hf hc.2)) ⟨_,_,rfl,?_,?_,CA.sub hca (off c f) (asz b) |> fun q=> ?_,h1⟩
   ·rw [a1d];exact hblk
   ·rw [a1d];exact hg
   ·rw [<- ho];exact q
  ·exact hev.elim
 ·rename_i id
  simp only [Q.Ev] at hev
  split at hev
  ·rename_i t a0 hmem
   split at hev
   case h_2=>exact hev.elim
   rename_i c hca
   split at hev
   ·rename_i hc
    obtain ⟨hm1,rfl,rfl⟩:=hev
    simp only [qB,decide_eq_true_eq] at hc
    have ho:=qC hc.1.1
    have hm:=h.mem id
    rw [hmem] at hm
    obtain ⟨blk,u,hv,hM,ha⟩:=hm
    refine d9 h (b6x (hx.2.1.trans hv) (b72 hs hf hc.1.2)) ⟨hx.1,⟨blk,0,none⟩,?_,?_,?_⟩
    ·show b9b (π id)=_;rw [hv];rfl
    ·simp only [okP,okV]
     cases hl:(U.lay c)[f]? with
     | none=>trivial
     | some o=>cases o<;>trivial
    ·rw [<- ho]
     simp only [c51,b0k]
     have:U.lay c≠[]:=fun e=>by rw [e] at hc;simp at hc
     cases hl:(U.lay c)[f]? with
     | none=>simp
     | some o=>cases o<;>simp [b0k]
   ·exact hev.elim
  ·exact hev.elim
 ·exact hev.elim
theorem b5s: ∀(p:List PE) (c c':U.C) (q:PE),b73 c p=some c' -> b0k c (p++[q])=b0k c p+b0k c' [q] /\ (okV c p -> okV c' [q] -> okV c (p++[q]))
 | [],c,c',q,h=>by
   cases h
   exact ⟨(Nat.zero_add _).symm,fun _ h=>h⟩
 | .f n::p,c,c',q,h=>by
   simp only [b73] at h
   split at h
   ·rename_i c1 hl
    obtain ⟨h1,h2⟩:=b5s p c1 c' q h
    simp only [List.cons_append,b0k,okV,hl]
    exact ⟨by rw [h1,Nat.add_assoc],h2⟩
   ·cases h
 | .i n::p,c,c',q,h=>by
   simp only [b73] at h
   split at h
   ·obtain ⟨h1,h2⟩:=b5s p (U.ae c) c' q h
    simp only [List.cons_append,b0k,okV]
    exact ⟨by rw [h1,Nat.add_assoc],fun ⟨a,b,c⟩ d=>⟨a,b,h2 c d⟩⟩
   ·cases h
theorem b96 {p:List PE} {c c':U.C} {q:PE} (h:(match p with | .i _::q=>b73 c q | _=>b73 c p)=some c') (hq:p=[] -> ∃n,q= .f n):c51 c (p++[q])=c51 c p+b0k c' [q] /\ (okP c p -> okV c' [q] -> okP c (p++[q])):=by
 match p,h,hq with
 | [],h,hq=>
   obtain ⟨n,rfl⟩:=hq rfl
   exact b5s [] c c' _ h
 | .f n::p,h,_=>exact b5s (.f n::p) c c' q h
 | .i n::p,h,_=>
   obtain ⟨h1,h2⟩:=b5s p c c' q h
   refine ⟨?_,h2⟩
   show n.toNat*U.n c+b0k c (p++[q])=n.toNat*U.n c+b0k c p+_
   rw [h1,Nat.add_assoc]
theorem e3g {p:List PE} {c c':U.C} {n:Int} (h:(match p with | []=>none | .i _::q=>b73 c q | .f k::q=>b73 c (.f k::q))=some c'):c51 c (p++[.i n])=c51 c p+b0k c' [.i n] /\ (okP c p -> okV c' [.i n] -> okP c (p++[.i n])):=by
 cases p with
 | nil=>cases h
 | cons q p=>cases q with
   | f k=>exact b96 (p:= .f k::p) h fun e=>by cases e
   | i k=>exact b96 (p:= .i k::p) h fun e=>by cases e
theorem f3g {c:U.C} {f:Nat}:b0k c [.f f]=off c f:=by
 simp only [b0k]
 cases hl:(U.lay c)[f]? with
 | none=>simp
 | some o=>cases o<;>simp
theorem f8e {c:U.C} {f:Nat}:okV c [.f f]:=by
 simp only [okV]
 cases hl:(U.lay c)[f]? with
 | none=>trivial
 | some o=>cases o<;>trivial
theorem d2g (h:Rel E Z π σ ρ w) {s:TypeId} {f id:Nat} {c:U.C} {p:List PE} (hx:AVR (cx Z π σ w) (.fref id c p) (ev ρ x)) (hev:(d2l P s f id c p).Ev σ m0 m v ws):a39 P E σ ρ w ⟨d,.fieldAddr s x f,ty,ps,af,g⟩ v ws:=by
 unfold d2l at hev
 split at hev
 case h_2=>exact hev.elim
 rename_i fs hs
 split at hev
 case h_2=>exact hev.elim
 rename_i fl hf
 obtain ⟨hu,ad,had,hok,hv⟩:=hx
 split at hev
 ·rename_i c' hc'
  split at hev
  ·rename_i hc
   obtain ⟨hm1,rfl,rfl⟩:=hev
   simp only [qB,decide_eq_true_eq] at hc
   obtain ⟨h1,h2⟩:=b96 (q:= .f f) hc' fun _=>⟨f,rfl⟩
   refine d9 h (b6x hv (b72 hs hf hc.1.2)) ⟨hu,ad,had,h2 hok f8e,?_⟩
   rw [h1,f3g,<- qC hc.1.1,Addr.add_add]
  ·exact hev.elim
 ·exact hev.elim
theorem d48 {t:TypeId} {cs:List Value} {o:Nat} (hf:b0e P t b=true) (hr:d7 Rp (cx Z π σ w).G w b ((cs.drop o).take (asz b))) (hl:o+asz b <= cs.length):
  ∃u,a18 (cx Z π σ w) b u /\ (part t cs.toArray o).run P w= .ok u w:=by
 unfold b0e at hf
 simp only [qB] at hf
 obtain ⟨⟨hp,hag⟩,hs⟩:=hf
 have hr0:=hr
 obtain ⟨u,hu,hur⟩:=a0k (X:=cx Z π σ w) hr
 refine ⟨u,hur,?_⟩
 cases hv:a6c b with
 | true=>
   rw [hv] at hag
   cases b<;>try (cases hv;done)
   case st=>exact hr0.elim
   rename_i c xv
   obtain ⟨cs',hu',hc'⟩:=hur
   subst hu'
   have e:cs'=(cs.drop o).take (U.n c):=by simpa [Value.cells,asz] using hu
   simp only [part,Sem.run_bind,b4b hag,Result.andThen_ok,if_true,b19 hs,asz]
   rw [e]
   simp only [Sem.run_pure,Result.ok.injEq,Value.agg.injEq,and_true]
   apply Array.ext'
   simp [List.extract_eq_take_drop]
 | false=>
   rw [hv] at hag
   have h1:asz b=1:=by cases b<;>first | rfl | cases hv
   rw [h1] at hu hl
   have hlt:o<cs.length:=by omega
   have hcu:u.cells.toList=[cs[o]]:=by rw [hu,List.drop_eq_getElem_cons hlt,List.take_succ_cons,List.take_zero]
   have huc:u=cs[o]:=by
    cases b<;>first
     | (cases hp;done)
     | (cases hv;done)
     | (have hur:u=_:=hur;subst hur;simpa [Value.cells] using hcu)
     | (have:=a8x hur;rw [this] at hcu;simpa using hcu)
     | (obtain ⟨ad,cs',hur,_⟩:=hur;subst hur;simpa [Value.cells] using hcu)
     | exact hr0.elim
   simp [part,b4b hag,hlt,huc]
theorem d6i (hU:UOK U) (h:Rel E Z π σ ρ w) {t:TypeId} (hx:AVR (cx Z π σ w) a (ev ρ x)) (hy:AVR (cx Z π σ w) b (ev ρ y)) (hev:(d7s P t a b).Ev σ m0 m v ws):
  a39 P E σ ρ w ⟨d,.index t x y,ty,ps,af,g⟩ v ws:=by
 unfold d7s at hev
 split at hev
 ·rename_i s k n ht
  obtain ⟨c,hc,hm,rfl,rfl⟩:=hev
  exact d9 h (f0l hx hy ht hc) rfl
 ·rename_i k e ca xv n ht
  split at hev
  case h_2=>exact hev.elim
  rename_i hok
  simp only [qB] at hok
  obtain ⟨⟨hA,hmn⟩,he2⟩:=hok
  have hmn:=qC hmn
  obtain ⟨zv,hz,hev⟩:=hev
  dsimp only at hev
  split at hev
  case h_2=>exact hev.elim
  rename_i hf
  obtain ⟨hm1,rfl,rfl⟩:=hev
  obtain ⟨cs,hv,hr⟩:=hx
  obtain ⟨_,css,hcs,hall⟩:=a73.1 hr
  rw [(hU.arr ca xv hA).1] at hall
  obtain ⟨h0,h1,h2⟩:=b7w (inj (U.ae ca)) hz
  obtain ⟨s,hs,hfr⟩:=hall.get h1
  have ht2:=b7v hU (U.al ca xv) css n.toNat hall (Nat.le_of_lt h2)
  have hsl:s.length=U.n (U.ae ca):=(a7j hU hfr).trans (a15 hU _ zv).2.2
  have hsub:(css.flatten.drop (n.toNat*U.n (U.ae ca))).take s.length=s /\ n.toNat*U.n (U.ae ca)+s.length <= css.flatten.length:=by
   rw [<- ht2]
   clear ht2 h1 h2 hfr hall hr hcs hz hsl
   generalize n.toNat=k at hs
   induction css generalizing k with
   | nil=>simp at hs
   | cons c css ih=>cases k with
     | zero=>simp at hs;subst hs;simp
     | succ k=>
       simp only [List.take_succ_cons,List.flatten_cons,qL]
       rw [List.drop_length_add_append]
       obtain ⟨g1,g2⟩:=ih k (by simpa using hs)
       exact ⟨g1,by omega⟩
  have hz2:asz (inj (U.ae ca) zv)=s.length:=((a15 hU _ zv).2.2).trans hsl.symm
  obtain ⟨u,hur,hrun⟩:=d48 (P:=P) (π:=π) (σ:=σ) (Z:=Z) (w:=w) (cs:=cs) (o:=n.toNat*U.n (U.ae ca)) hf (by rw [hz2,hcs,hsub.1];exact hfr) (by rw [hz2,hcs];exact hsub.2)
  have hlt:n<(k:Int):=by
   have:=(hU.arr ca xv hA).2
   omega
  refine d9 h (show YV P (ev ρ) w _ u from ?_) (AVR.of1 hur)
  have hy':ev ρ y= .int .i64 n:=hy
  simp [YV,execOp,hv,hy',Instr.index,asIntOf,run_underlying ht,h0,hlt,b19 he2,hrun]
 ·exact hev.elim
theorem e12 {X:Cx} {t:TypeId} {cs:List Value} {o:Nat} {u:Value} (hf:b0e P t b=true) (hp:u7 b=true) (hr:b37 X b u) (hu:(cs.drop o).take (asz b)=u.cells.toList) (hl:o+asz b <= cs.length):(part t cs.toArray o).run P w= .ok u w:=by
 unfold b0e at hf
 simp only [qB] at hf
 obtain ⟨⟨hpl,hag⟩,hs⟩:=hf
 cases hv:a6c b with
 | true=>
   rw [hv] at hag
   cases b<;>try (cases hv;done)
   case st=>cases hp
   rename_i c xv
   obtain ⟨cs',hu',hc'⟩:=hr
   subst hu'
   have e:cs'=(cs.drop o).take (U.n c):=by simpa [Value.cells,asz] using hu.symm
   simp only [part,Sem.run_bind,b4b hag,Result.andThen_ok,if_true,b19 hs,asz]
   rw [e]
   simp only [Sem.run_pure,Result.ok.injEq,Value.agg.injEq,and_true]
   apply Array.ext'
   simp [List.extract_eq_take_drop]
 | false=>
   rw [hv] at hag
   have h1:asz b=1:=by cases b<;>first | rfl | cases hv
   rw [h1] at hu hl
   have hlt:o<cs.length:=by omega
   have hcu:u.cells.toList=[cs[o]]:=by rw [<- hu,List.drop_eq_getElem_cons hlt,List.take_succ_cons,List.take_zero]
   have huc:u=cs[o]:=by
    cases b<;>first
     | (cases hp;done)
     | (cases hv;done)
     | (have hr:u=_:=hr;subst hr;simpa [Value.cells] using hcu)
     | (have:=a8x hr;rw [this] at hcu;simpa using hcu)
     | (obtain ⟨ad,cs,hr,_⟩:=hr;subst hr;simpa [Value.cells] using hcu)
     | (obtain ⟨_,_,h1⟩:=hr;rw [b5b h1] at hcu;simpa using hcu)
   simp [part,b4b hag,hlt,huc]
theorem d63 (hU:UOK U) (h:Rel E Z π σ ρ w) {s:TypeId} {f:Nat} (hx:AVR (cx Z π σ w) a (ev ρ x)) (hev:(e8d P s f a).Ev σ m0 m v ws):a39 P E σ ρ w ⟨d,.field s x f,ty,ps,af,g⟩ v ws:=by
 unfold e8d at hev
 split at hev
 case h_2=>exact hev.elim
 rename_i fs hs
 split at hev
 case h_2=>exact hev.elim
 rename_i fl hf
 split at hev
 ·rename_i c yv
  split at hev
  case h_2=>exact hev.elim
  rename_i b hb
  split at hev
  case h_2=>exact hev.elim
  rename_i hc
  obtain ⟨hm1,rfl,rfl⟩:=hev
  simp only [qB] at hc
  have ho:=qC hc.1
  obtain ⟨cs,hv,hr⟩:=hx
  obtain ⟨h1,h2⟩:=b8d hU hr hb
  obtain ⟨u,hur,hrun⟩:=d48 (P:=P) (π:=π) (σ:=σ) hc.2 h1 h2
  refine d9 h (d9c hv (u:=u) ?_) (AVR.of1 hur)
  simp [Instr.field,b1u hs,hf,asAgg,<- ho,hrun]
 ·rename_i c as
  split at hev
  case h_2=>exact hev.elim
  rename_i b hb
  split at hev
  case h_2=>exact hev.elim
  rename_i hc
  obtain ⟨hm1,rfl,rfl⟩:=hev
  simp only [qB] at hc
  have ho:=qC hc.1.1
  obtain ⟨css,hv,hlay,hp,hr⟩:=hx
  obtain ⟨u,h1,h2,h3,h4⟩:=c7u hr hp hb
  rw [hlay] at h2 h3
  have hrun:=e12 (P:=P) (w:=w) hc.1.2 h4 h1 h2 h3
  refine d9 h (d9c hv (u:=u) ?_) (AVR.of1 (.of0 h1))
  show (Instr.field s (.agg css.flatten.toArray) f).run P w=_
  have e:off c f=fl.offset:=ho
  simp only [off] at e
  rw [e] at hrun
  simp [Instr.field,b1u hs,hf,asAgg,hrun]
 ·exact hev.elim
end
end Go.SX
namespace Go.SX
open Go Go.PL
section
variable {P:Program} {U:Uni} {E:Env} {Z:Nat -> Prop} {π:Nat -> Value} {σ:U.St} {ρ:Nat -> Value} {w:World}
variable {d:Option Tmp} {ty:TypeId} {ps:String} {af:Array Edge} {g:Option (Nat×Bool)} {x y z:Operand} {m0 m:Nat} {a b v:U.AV} {ws:List (Nat×U.MC)} {fr:Nat}
theorem c3j {c:U.C} {l:List (U.T c)} {G:Nat -> Prop} {w:World} {u:Value} (h:j5 (Rp c) G w u l):u.oneCell'=true:=by
 obtain ⟨a,cap,hs,_⟩:=j5.shape h
 subst hs;rfl
theorem d3k {G:Nat -> Prop} {w:World} {p:U.AV -> List Value -> Prop} (hp: ∀a cs,p a cs -> ∀u∈cs,u.oneCell'=true): ∀{as:List U.AV} {css:List (List Value)},m7 p as css -> ∀u∈css.flatten,u.oneCell'=true
 | [],[],_,u,hu=>by simp at hu
 | a::as,c::css,h,u,hu=>by
   simp only [List.flatten_cons,qK] at hu
   rcases hu with hu | hu
   ·exact hp a c h.1 u hu
   ·exact d3k (G:=G) (w:=w) hp h.2 u hu
 | [],_::_,hh,_,_=>hh.elim
 | _::_,[],hh,_,_=>hh.elim
theorem e6b {G:Nat -> Prop} {w:World}: ∀(k:Nat) (c:U.C) (cs:List Value) (x:U.T c),(Rd k c).rep G w cs x -> ∀u∈cs,u.oneCell'=true
 | 0,_,_,_,h=>False.elim h
 | k+1,c,cs,x,⟨hl,css,hc,h⟩=>by
   subst hc
   refine d3k (G:=G) (w:=w) (fun a cs ha u hu=> ?_) h
   cases a<;>simp only [d7] at ha<;>first
    | (subst ha;simp at hu;subst hu;rfl)
    | exact e6b k _ _ _ ha u hu
    | (obtain ⟨v,hv,hr⟩:=ha;subst hv;simp at hu;subst hu
       obtain ⟨a,cap,hs,_⟩:=j5.shape hr;subst hs;rfl)
    | (obtain ⟨ad,cs',hc,_⟩:=ha;subst hc;simp at hu;subst hu;rfl)
    | exact ha.elim
theorem e7y {G:Nat -> Prop} {w:World} {c:U.C} {cs:List Value} {x:U.T c} (h:(Rp c).rep G w cs x): ∀u∈cs,u.oneCell'=true:=by
 obtain ⟨k,h⟩:=h;exact e6b k c cs x h
def c45 {G:Nat -> Prop} {w:World} {c:U.C} {cs:List Value} {x:U.T c} (h:(Rp c).rep G w cs x):Raw (U.n c):=⟨cs,(Rp c).len h,e7y h⟩
abbrev RAW (n:Nat):TyR (Raw n):=TyR.flat n Subtype.val (fun r=>r.2.1)
theorem d8g {G:Nat -> Prop} {w:World} {c:U.C} {u:Value} {l:List (U.T c)} (h:j5 (Rp c) G w u l): ∃css:List (Raw (U.n c)),j5 (RAW (U.n c)) G w u css /\ m7 (fun (r:Raw (U.n c)) x=>(Rp c).rep G w r.1 x) css l:=by
 rcases h with ⟨hv,hl⟩ | ⟨a,cap,hv,hc,hm,hi⟩
 ·subst hl;exact ⟨[],.inl ⟨hv,rfl⟩,trivial⟩
 ·have key: ∀(k:Nat) (l':List (U.T c)),(∀i x,l'[i]? =some x -> ∃cs,(Rp c).rep G w cs x /\ a.block<w.heap.size /\ ¬G a.block /\ CA w (a.add ((k+i)*(Rp c).n)) cs) ->
    ∃css:List (Raw (U.n c)),css.length=l'.length /\ m7 (fun (r:Raw (U.n c)) x=>(Rp c).rep G w r.1 x) css l' /\ ∀i r,css[i]? =some r -> a.block<w.heap.size /\ ¬G a.block /\ CA w (a.add ((k+i)*U.n c)) r.1:=by
   intro k l'
   induction l' generalizing k with
   | nil=>intro _;exact ⟨[],rfl,trivial,fun i r h=>by simp at h⟩
   | cons y l' ih=>
     intro hh
     obtain ⟨cs,h1,h2,h3,h4⟩:=hh 0 y rfl
     obtain ⟨css,g1,g2,g3⟩:=ih (k+1) fun i x hx=>by
      have:=hh (i+1) x (by simpa using hx)
      rwa [show k+(i+1)=k+1+i by omega] at this
     refine ⟨c45 h1::css,by simp [g1],⟨h1,g2⟩,fun i r hr=> ?_⟩
     cases i with
     | zero=>simp at hr;subst hr;exact ⟨h2,h3,h4⟩
     | succ i=>
       have:=g3 i r (by simpa using hr)
       rwa [show k+1+i=k+(i+1) by omega] at this
  obtain ⟨css,g1,g2,g3⟩:=key 0 l fun i x hx=>by simpa using hi i x hx
  refine ⟨css,.inr ⟨a,cap,by rw [g1];exact hv,by rw [g1];exact hc,hm,fun i r hr=> ?_⟩,g2⟩
  obtain ⟨h2,h3,h4⟩:=g3 i r hr
  rw [Nat.zero_add] at h4
  exact ⟨r.1,rfl,h2,h3,h4⟩
theorem e3s {G G':Nat -> Prop} {w:World} {c:U.C} {u:Value} {l:List (U.T c)} {css:List (Raw (U.n c))} (h:j5 (RAW (U.n c)) G w u css) (hr:m7 (fun (r:Raw (U.n c)) x=>(Rp c).rep G' w r.1 x) css l) (hG: ∀b,G' b -> G b):j5 (Rp c) G' w u l:=by
 have hl:=hr.length
 rcases h with ⟨hv,h0⟩ | ⟨a,cap,hv,hc,hm,hi⟩
 ·subst h0
  exact .inl ⟨hv,List.length_eq_zero_iff.1 hl.symm⟩
 ·refine .inr ⟨a,cap,by rw [<- hl];exact hv,by rw [<- hl];exact hc,hm,fun i x hx=> ?_⟩
  obtain ⟨r,hr1,hr2⟩:=hr.getR hx
  obtain ⟨cs,h1,h2,h3,h4⟩:=hi i r hr1
  have h1:cs=r.1:=h1
  subst h1
  exact ⟨r.1,hr2,h2,fun h=>h3 (hG _ h),h4⟩
theorem b2z (hU:UOK U) {G:Nat -> Prop} {w:World} {c:U.C} {x:U.T c} {cs:List Value} (h:(Rp c).rep G w cs x):d7 Rp G w (inj c x) cs:=by
 unfold inj
 cases ha:U.ag c with
 | true=>exact h
 | false=>
   obtain ⟨hl,css,rfl,hh⟩:=a73.1 h
   have hlay:=hU.lay c x
   rw [hU.sc c ha] at hlay
   cases hf:U.flds c x with
   | nil=>rw [hf] at hlay;simp at hlay
   | cons a r=>
     rw [hf] at hh hlay
     cases r with
     | cons _ _=>simp at hlay
     | nil=>cases css with
       | nil=>exact hh.elim
       | cons s css=>cases css with
         | nil=>simpa using hh.1
         | cons _ _=>exact hh.2.elim
theorem a7g {e n:Nat} (h:d5f P e n=true):(P.info? e).map (·.size)=some n:=by
 unfold d5f at h
 split at h
 ·rename_i i hi;rw [hi,<- qC h];rfl
 ·cases h
theorem a90 {t:TypeId} {c:U.C} (h:a9p P t c=true): ∃e,P.underlying t=some (.slice e) /\ d5f P e (U.n c)=true /\ f1g P e (U.ag c)=true /\ 0<U.n c:=by
 unfold a9p at h
 split at h
 ·rename_i e he
  simp only [qB,decide_eq_true_eq] at h
  exact ⟨e,he,h.1.1,h.1.2,h.2⟩
 ·cases h
theorem c1d (hU:UOK U) (h:Rel E Z π σ ρ w) {t:TypeId} {c:U.C} {l:List (U.T c)} {n:Int} (hx:j5 (Rp c) (cx Z π σ w).G w (ev ρ x) l) (hy:ev ρ y= .int .i64 n) (he:a9p P t c=true)
  (hev:(Q.opt (c8 l n) fun z=>(Q.done (.rp (inj c z)) []:U.Q)).Ev σ m0 m v ws):a39 P E σ ρ w ⟨d,.indexAddr t x y,ty,ps,af,g⟩ v ws:=by
 obtain ⟨e,he1,he2,_,_⟩:=a90 he
 obtain ⟨zv,hz,hm1,rfl,rfl⟩:=hev
 obtain ⟨ad,cap,cs,hv,hi,hr,hb,hg,hca⟩:=hx.get hz
 refine d9 h (a7h hv hy (b85 he1 (a7g he2) hi)) ⟨_,cs,rfl,?_,?_,hca,b2z hU hr⟩
 ·rw [a1d];exact hb
 ·rw [a1d];exact hg
theorem b61 {t:TypeId} {ca:U.C} (h:c4c P t ca=true):U.isA ca=true /\ ∃m e,P.underlying t=some (.array m e) /\ m=U.an ca /\ d5f P e (U.n (U.ae ca))=true:=by
 unfold c4c at h
 split at h
 case h_2=>cases h
 rename_i m e he1
 simp only [qB] at h
 exact ⟨h.1.1,m,e,he1,qC h.1.2,h.2⟩
theorem c4f (hU:UOK U) (h:Rel E Z π σ ρ w) {t:TypeId} (hx:AVR (cx Z π σ w) a (ev ρ x)) (hy:AVR (cx Z π σ w) b (ev ρ y)) (hev:(b9f P t a b).Ev σ m0 m v ws):
  a39 P E σ ρ w ⟨d,.indexAddr t x y,ty,ps,af,g⟩ v ws:=by
 unfold b9f at hev
 split at hev
 case h_2=>exact hev.elim
 rename_i n
 have hy:ev ρ y= .int .i64 n:=hy
 split at hev
 ·rename_i c l
  split at hev
  ·rename_i he;exact c1d hU h hx hy he hev
  ·exact hev.elim
 ·rename_i id
  simp only [Q.Ev] at hev
  have hm:=h.mem id
  split at hev
  ·rename_i e0 c l hmem
   rw [hmem] at hm
   split at hev
   ·rename_i he
    obtain ⟨e,he1,he2,_,_⟩:=a90 he
    obtain ⟨zv,hz,hm1,rfl,rfl⟩:=hev
    obtain ⟨css,hO,hr⟩:=hm
    obtain ⟨r,hr1,hrep⟩:=b8i hr hz
    obtain ⟨ad,cap,hv,hi,hca⟩:=Own.elem hO hr1
    refine d9 h (a7h (hx.2.1.trans hv) hy (b85 he1 (a7g he2) hi)) ⟨hx.1,ad,?_,trivial,?_⟩
    ·show b9b (π id)=_;rw [hv];rfl
    ·simp [c51,b0k]
   ·exact hev.elim
  ·rename_i c l hmem
   rw [hmem] at hm
   split at hev
   ·rename_i he
    refine c1d hU h ?_ hy he hev
    rw [hx.2.1];exact hm
   ·exact hev.elim
  ·rename_i t0 ca x hmem
   rw [hmem] at hm
   split at hev
   case h_2=>exact hev.elim
   rename_i hok
   obtain ⟨zv,hz,hm1,rfl,rfl⟩:=hev
   unfold c4c at hok
   split at hok
   case h_2=>cases hok
   rename_i m e he1
   simp only [qB] at hok
   obtain ⟨⟨hA,hmn⟩,he2⟩:=hok
   have hmn:=qC hmn
   obtain ⟨blk,u,hv,hM,ha⟩:=hm
   obtain ⟨h0,h1,h2⟩:=b33 hz
   rw [(hU.arr ca x hA).2,<- hmn] at h1
   refine d9 h (a7h (hx.2.1.trans hv) hy (c68 he1 (a7g he2) ⟨h0,h1⟩)) ⟨hx.1,⟨blk,0,none⟩,?_,trivial,?_⟩
   ·show b9b (π id)=_;rw [hv];rfl
   ·simp [c51,b0k]
  ·exact hev.elim
 ·rename_i id c lo k
  simp only [Q.Ev] at hev
  have hm:=h.mem id
  split at hev
  case h_2=>exact hev.elim
  rename_i e0 c' l hmem
  rw [hmem] at hm
  split at hev
  case h_2=>exact hev.elim
  rename_i he
  simp only [qB] at he
  have hcc:=b4x he.2
  subst hcc
  obtain ⟨e,he1,he2,_,_⟩:=a90 he.1
  obtain ⟨zv,hz,hm1,rfl,rfl⟩:=hev
  obtain ⟨css,hO,hr⟩:=hm
  obtain ⟨r,hr1⟩: ∃r,c0h css lo n=some r:=by
   unfold c0h at hz⊢
   split at hz
   ·rename_i h0
    rw [if_pos h0]
    obtain ⟨r,hr1,_⟩:=b8i hr hz
    exact ⟨r,hr1⟩
   ·cases hz
  have hV:=hx.2
  obtain ⟨ad,cap,hv,hi,_⟩:=c4b.getF (hn:=fun r=>r.2.1) hV hO hr1
  obtain ⟨a1,L,c1,a2,c2,hv0,hlo,hL,hu,hp⟩:=hV
  obtain ⟨b0,hb0,hb2⟩:=hp (by omega)
  have had:ad=b0.add (lo.toNat*U.n c'):=by
   rw [hu,hb2] at hv
   simp only [Value.slice.injEq,Option.some.injEq] at hv
   exact hv.1.symm
  refine d9 h (a7h hv hy (b85 he1 (a7g he2) hi)) ⟨hx.1,b0,?_,trivial,?_⟩
  ·show b9b (π id)=_
   have hv0:π id=_:=hv0
   rw [hv0,hb0];rfl
  ·have e1:c51 c' [.i (lo+n)]=lo.toNat*U.n c'+n.toNat*U.n c':=by
    show (lo+n).toNat*U.n c'+0=_
    have e2:(lo+n).toNat=lo.toNat+n.toNat:=by omega
    rw [e2,Nat.add_mul,Nat.add_zero]
   rw [had,Deep.add_add,e1]
 ·rename_i ca xv
  split at hev
  case h_2=>exact hev.elim
  rename_i hok
  obtain ⟨zv,hz,hm1,rfl,rfl⟩:=hev
  obtain ⟨hA,m,e,he1,hmn,he2⟩:=b61 hok
  obtain ⟨ad,cs,hv,hblk,hg,hca,hr⟩:=hx
  obtain ⟨h0,h1,h2⟩:=b33 hz
  rw [(hU.arr ca xv hA).2,<- hmn] at h1
  obtain ⟨_,hm1',_⟩:=b7w (inj (U.ae ca)) hz
  rw [<- (hU.arr ca xv hA).1] at hm1'
  obtain ⟨g1,g2⟩:=b8d hU hr hm1'
  have ho:off ca n.toNat=n.toNat*U.n (U.ae ca):=f03 hU hA xv (by rw [(hU.arr ca xv hA).2];omega)
  refine d9 h (a7h hv hy (c68 he1 (a7g he2) ⟨h0,h1⟩)) ⟨_,_,rfl,?_,?_,CA.sub hca (off ca n.toNat) (asz (inj (U.ae ca) zv)) |> fun q=> ?_,g1⟩
  ·rw [a1d];exact hblk
  ·rw [a1d];exact hg
  ·rw [<- ho];exact q
 ·rename_i id c p
  split at hev
  case h_2=>exact hev.elim
  rename_i ca hca
  split at hev
  case h_2=>exact hev.elim
  rename_i hok
  obtain ⟨zv,hz,hm1,rfl,rfl⟩:=hev
  obtain ⟨hA,m,e,he1,hmn,he2⟩:=b61 hok
  obtain ⟨hu,ad,had,hokp,hv⟩:=hx
  unfold inAr at hz
  split at hz
  case isFalse=>cases hz
  rename_i hin
  obtain ⟨h1,h2⟩:=e3g (n:=n) hca
  refine d9 h (a7h hv hy (c68 he1 (a7g he2) ⟨hin.1,by rw [hmn];exact hin.2⟩)) ⟨hu,ad,had,h2 hokp ⟨hin.1,hin.2,trivial⟩,?_⟩
  rw [h1,Addr.add_add]
  simp [b0k]
 ·exact hev.elim
theorem e5b (h:Rel E Z π σ ρ w) (hx:AVR (cx Z π σ w) a (ev ρ x)) (hev:(f8f a:U.Q).Ev σ m0 m v ws):a39 P E σ ρ w ⟨d,.nilCheck x,ty,ps,af,g⟩ v ws:=by
 unfold f8f at hev
 split at hev
 ·rename_i id
  simp only [Q.Ev] at hev
  have hm:=h.mem id
  split at hev
  ·rename_i t a0 hmem
   rw [hmem] at hm
   obtain ⟨hm1,rfl,rfl⟩:=hev
   obtain ⟨blk,u,hv,_,_⟩:=hm
   exact d9 h (b91 (hx.2.1.trans hv)) ⟨hx.1,hv.symm,rfl⟩
  ·exact hev.elim
 ·obtain ⟨hm1,rfl,rfl⟩:=hev
  obtain ⟨ad,cs,hv,r⟩:=hx
  exact d9 h (b91 hv) ⟨ad,cs,rfl,r⟩
 ·obtain ⟨hm1,rfl,rfl⟩:=hev
  obtain ⟨hu,ad,had,hok,hv⟩:=hx
  exact d9 h (b91 hv) ⟨hu,ad,had,hok,rfl⟩
 ·exact hev.elim
theorem d4y (h:Rel E Z π σ ρ w) {id:Nat} {c:U.C} {l:List (U.T c)} (hm:(∃e,σ.mem id= .sl e c l) \/ σ.mem id= .fz c l): ∃ad cap,π id= .slice ad l.length cap:=by
 have hh:=h.mem id
 rcases hm with ⟨e,hm⟩ | hm
 ·rw [hm] at hh
  obtain ⟨css,hO,hr⟩:=hh
  obtain ⟨ad,cap,hv,_⟩:=hO.shape
  exact ⟨ad,cap,by rw [hv,hr.length]⟩
 ·rw [hm] at hh
  obtain ⟨ad,cap,hv,_⟩:=j5.shape hh
  exact ⟨ad,cap,hv⟩
theorem d96 {t:TypeId} (h:e9l P t=true): ∃e,P.underlying t=some (.slice e):=by
 unfold e9l at h;split at h
 ·exact ⟨_,by assumption⟩
 ·cases h
theorem e4l (h:Rel E Z π σ ρ w) {t:TypeId} (hx:AVR (cx Z π σ w) a (ev ρ x)) (hev:(f7f P t a).Ev σ m0 m v ws):a39 P E σ ρ w ⟨d,.call ⟨.builtin .len,#[x],#[t]⟩,ty,ps,af,g⟩ v ws:=by
 have key: ∀(ad:Option Addr) (n cap:Nat),e9l P t=true -> ev ρ x= .slice ad n cap -> a39 P E σ ρ w ⟨d,.call ⟨.builtin .len,#[x],#[t]⟩,ty,ps,af,g⟩ (.int .i64 (n:Int):U.AV) []:=by
  intro ad n cap ht hv
  obtain ⟨e,he⟩:=d96 ht
  refine d9 h (e59 hv ?_) rfl
  simp [Builtin.len_,run_underlying he,goInt]
 unfold f7f at hev
 split at hev
 ·split at hev
  ·rename_i ht
   obtain ⟨hm1,rfl,rfl⟩:=hev
   obtain ⟨ad,cap,hv,_⟩:=j5.shape hx
   exact key _ _ _ ht hv
  ·exact hev.elim
 ·split at hev
  ·rename_i ht
   obtain ⟨hm1,rfl,rfl⟩:=hev
   exact key _ 0 _ ht hx
  ·exact hev.elim
 ·rename_i s
  split at hev
  ·rename_i ht
   obtain ⟨hm1,rfl,rfl⟩:=hev
   unfold e3u at ht
   split at ht
   ·rename_i hu
    refine d9 h (e59 (v:= .string s) hx (u:= .int .i64 (s.size:Int)) ?_) rfl
    simp [Builtin.len_,run_underlying hu,goInt]
   ·cases ht
  ·exact hev.elim
 ·split at hev
  ·rename_i ht
   obtain ⟨hm1,rfl,rfl⟩:=hev
   obtain ⟨ad,cap,hv⟩:=c4b.shape hx.2
   exact key _ _ _ ht hv
  ·exact hev.elim
 ·rename_i id
  split at hev
  ·rename_i ht
   simp only [Q.Ev] at hev
   split at hev
   ·rename_i e c l hmem
    obtain ⟨hm1,rfl,rfl⟩:=hev
    obtain ⟨ad,cap,hv⟩:=d4y h (.inl ⟨e,hmem⟩)
    exact key _ _ _ ht (hx.2.1.trans hv)
   ·rename_i c l hmem
    obtain ⟨hm1,rfl,rfl⟩:=hev
    obtain ⟨ad,cap,hv⟩:=d4y h (.inr hmem)
    exact key _ _ _ ht (hx.2.1.trans hv)
   ·exact hev.elim
  ·exact hev.elim
 ·exact hev.elim
theorem d8s (h:Rel E Z π σ ρ w) {mx:Bool} {ts:Array TypeId} (hx:AVR (cx Z π σ w) a (ev ρ x)) (hy:AVR (cx Z π σ w) b (ev ρ y)) (hev:(mmQ mx a b:U.Q).Ev σ m0 m v ws):
  a39 P E σ ρ w ⟨d,.call ⟨.builtin (match mx with | true=> .max | false=> .min),#[x,y],ts⟩,ty,ps,af,g⟩ v ws:=by
 unfold mmQ at hev
 split at hev
 ·cases mx
  ·obtain ⟨hm1,rfl,rfl⟩:=hev;exact d9 h (f1y hx hy) rfl
  ·obtain ⟨hm1,rfl,rfl⟩:=hev;exact d9 h (f5d hx hy) rfl
 ·exact hev.elim
def FZ (σ:U.St) (fz:List (Nat×U.MC)):Prop:= ∀id m,(id,m)∈fz -> ∃e c l,σ.mem id= .sl e c l /\ m= .fz c l
def Zf (Z:Nat -> Prop) (π:Nat -> Value) (σ:U.St) (fz:List (Nat×U.MC)):Nat -> Prop:=fun b=>Z b \/ ∃id m,lk id fz=some m /\ MB (σ.mem id) (π id) b
theorem b5j {c:U.C} {l:List (U.T c)} {u:Value} {e:TypeId} {X:Cx} {Z':Nat -> Prop} (h:MR X (.sl e c l) u) (hZ: ∀b,X.Z b -> Z' b) (hb: ∀b,u.ownBlock=some b -> Z' b):j5 (Rp c) (fun b=> ¬Z' b) X.w u l:=by
 obtain ⟨css,hO,hr⟩:=h
 have h1:j5 (RAW (U.n c)) (fun b=> ¬Z' b) X.w u css:=hO.rep fun b hb' hz=>hz (hb b hb')
 exact e3s h1 (hr.mono fun r x hh=>(Rp c).weaken hh fun b _ hn hz=>hn (hZ b hz)) fun b h=>h
theorem d7i {fz:List (Nat×U.MC)} (hf:FZ σ fz) {id:Nat} {m:U.MC} (hl:lk id fz=some m): ∃e c l,σ.mem id= .sl e c l /\ m= .fz c l:=hf id m (a98 hl)
theorem a6t {u:Value} {b:Nat} {ad:Option Addr} {n c:Nat} (hu:u= .slice ad n c):u.ownBlock=some b↔hdV u=some b:=by
 subst hu
 cases ad<;>simp [Value.ownBlock,hdV]
theorem Rel.freeze (h:Rel E Z π σ ρ w) {fz:List (Nat×U.MC)} (hf:FZ σ fz):Rel E (Zf Z π σ fz) π (σ.app none .unk fz) ρ w:=by
 refine h.next (d:=none) (v:=undef) (a:= .unk) ((Ext.refl _ w)) (fun b hb=> .inl hb) (fun b hb=> ?_) (fun _ _=>rfl) (fun id m hl=> ?_) (fun id m hl=> ?_) (fun id m b hl hb=> ?_) (fun id id' m m' b _ hl hl' hb=> ?_) trivial
 ·rcases hb with hb | hb
  ·exact .inl hb
  ·exact .inr (.inr hb)
 ·obtain ⟨e,c,l,_,rfl⟩:=d7i hf hl
  intro h;cases h
 ·obtain ⟨e,c,l,hm,rfl⟩:=d7i hf hl
  have hh:=h.mem id
  rw [hm] at hh
  refine b5j (X:=cx Z π σ w) (Z':=Zf Z π σ fz) hh (fun b hb=> .inl hb) fun b hb=> .inr ⟨id,_,hl,?_⟩
  rw [hm]
  obtain ⟨css,hO,_⟩:=hh
  obtain ⟨ad,cap,hv,_⟩:=hO.shape
  exact (a6t hv).1 hb
 ·obtain ⟨e,c,l,hm,rfl⟩:=d7i hf hl
  exact hb.elim
 ·obtain ⟨e,c,l,hm,rfl⟩:=d7i hf hl
  exact hb.elim
theorem c2w (h:Rel E Z π σ ρ w) {fz:List (Nat×U.MC)} (hf:FZ σ fz):(cx Z π σ w).Le (cx (Zf Z π σ fz) π (σ.app none .unk fz) w):=by
 refine ⟨fun b hb=> .inl hb,Ext.refl _ _,fun id hu=>⟨?_,rfl⟩⟩
 show (σ.app none .unk fz).mem id≠ .never
 rw [m5]
 cases hl:lk id fz with
 | none=>exact hu
 | some m=>obtain ⟨e,c,l,_,rfl⟩:=d7i hf hl;intro h;cases h
theorem c2p (hU:UOK U) {X:Cx} {a:U.AV} {u:Value} (h:a18 X a u):a18 X (c63 a) u:=by
 cases a<;>try exact h
 rename_i c as
 unfold c63
 dsimp only
 split
 ·rename_i x hx
  obtain ⟨css,hu,_,_,hr⟩:=h
  exact ⟨css.flatten,hu,d15 hU hx hr⟩
 ·exact h
theorem e47 (hU:UOK U) {X:Cx} {a:U.AV} {u:Value} (h:AVR X a u):AVR X (c63 a) u:=by
 cases a<;>try exact h
 exact AVR.of1 (c2p hU h)
theorem d6j {a:U.AV} (h:u7 a=true):c63 a=a:=by
 cases a<;>first | rfl | cases h
theorem b9p (hU:UOK U) (h:Rel E Z π σ ρ w): ∀{as:List U.AV} {us:List Value} {k:List U.AV -> List (Nat×U.MC) -> U.Q} {m0 m:Nat} {v:U.AV} {ws:List (Nat×U.MC)},m7 (AVR (cx Z π σ w)) as us -> (d0r as k).Ev σ m0 m v ws ->
  ∃as' fz m1,(k as' fz).Ev σ m1 m v ws /\ (as.all u7=true -> as'.all u7=true) /\ FZ σ fz /\ (∀q∈fz,(.ref q.1:U.AV)∈as) /\ ∀fz',FZ σ fz' -> (∀q∈fz,q∈fz' /\ ∃m,lk q.1 fz'=some m) -> m7 (AVR (cx (Zf Z π σ fz') π (σ.app none .unk fz') w)) as' us
 | [],[],k,m0,m,v,ws,_,hev=>⟨[],[],m0,hev,fun _=>rfl,(fun _ _ hh=>by cases hh),(fun _ hh=>by cases hh),fun _ _ _=>trivial⟩
 | a::as,u::us,k,m0,m,v,ws,hr,hev=>by
   have skip:(d0r as fun as ws=>k (c63 a::as) ws).Ev σ m0 m v ws -> ∃as' fz m1,(k as' fz).Ev σ m1 m v ws /\ ((a::as).all u7=true -> as'.all u7=true) /\ FZ σ fz /\ (∀q∈fz,(.ref q.1:U.AV)∈(a::as)) /\ ∀fz',FZ σ fz' -> (∀q∈fz,q∈fz' /\ ∃m,lk q.1 fz'=some m) -> m7 (AVR (cx (Zf Z π σ fz') π (σ.app none .unk fz') w)) as' (u::us):=by
    intro hev
    obtain ⟨as',fz,m1,h1,h0,h2,h2',h3⟩:=b9p hU h hr.2 hev
    refine ⟨c63 a::as',fz,m1,h1,fun hp=> ?_,h2,fun q hq=>qJ _ (h2' q hq),fun fz' hf hq=>⟨e47 hU (hr.1.le (c2w h hf)),h3 fz' hf hq⟩⟩
    simp only [List.all_cons,qB] at hp⊢
    exact ⟨by rw [d6j hp.1];exact hp.1,h0 hp.2⟩
   cases a<;>try exact skip hev
   rename_i id
   have hev:(match σ.mem id with
    | .sl _ c l=>d0r as fun as ws=>k (.list c l::as) ((id,.fz c l)::ws)
    | .fz c l=>d0r as fun as ws=>k (.list c l::as) ws
    | _=> .fail).Ev σ _ m v ws:=hev
   have hm:=h.mem id
   split at hev
   ·rename_i e c l hmem
    obtain ⟨as',fz,m1,h1,h0,h2,h2',h3⟩:=b9p hU h hr.2 hev
    refine ⟨_,_,m1,h1,fun hp=> ?_,fun id' m' hh=> ?_,fun q hq=> ?_,fun fz' hf hq=>⟨?_,h3 fz' hf fun q hq'=>hq q (qJ _ hq')⟩⟩
    ·simp only [List.all_cons,qB] at hp⊢
     exact ⟨rfl,h0 hp.2⟩
    ·rcases qO.1 hh with hh | hh
     ·cases hh;exact ⟨e,c,l,hmem,rfl⟩
     ·exact h2 id' m' hh
    ·rcases qO.1 hq with e1 | e1
     ·rw [e1];exact qI
     ·exact qJ _ (h2' q e1)
    ·rw [hmem] at hm
     obtain ⟨m',hl⟩:=(hq (id,.fz c l) (qI)).2
     rw [hr.1.2.1]
     refine b5j (X:=cx Z π σ w) (Z':=Zf Z π σ fz') hm (fun b hb=> .inl hb) fun b hb=> .inr ⟨id,m',hl,?_⟩
     rw [hmem]
     obtain ⟨css,hO,_⟩:=hm
     obtain ⟨ad,cap,hv,_⟩:=hO.shape
     exact (a6t hv).1 hb
   ·rename_i c l hmem
    obtain ⟨as',fz,m1,h1,h0,h2,h2',h3⟩:=b9p hU h hr.2 hev
    refine ⟨_,_,m1,h1,fun hp=> ?_,h2,fun q hq=>qJ _ (h2' q hq),fun fz' hf hq=>⟨?_,h3 fz' hf hq⟩⟩
    ·simp only [List.all_cons,qB] at hp⊢
     exact ⟨rfl,h0 hp.2⟩
    ·rw [hmem] at hm
     rw [hr.1.2.1]
     exact AVR.le (a:= .list c l) (c2w h hf) hm
   ·exact hev.elim
 | [],_::_,_,_,_,_,_,hh,_=>hh.elim
 | _::_,[],_,_,_,_,_,hh,_=>hh.elim
theorem a96 (hp:a8j a=true):b5i a=true:=by cases a<;>first | rfl | cases hp
theorem b4o {as:List U.AV} (h:as.all a8j=true):as.all b5i=true:=
 List.all_eq_true.2 fun a ha=>a96 (List.all_eq_true.1 h a ha)
theorem b4e (h:Rel E Z π σ ρ w) {fz:List (Nat×U.MC)} (hf:FZ σ fz) {o:Oper} {ws:List (Nat×U.MC)} (hg:a39 P E (σ.app none .unk fz) ρ w o a ws):a39 P E σ ρ w o a (ws++fz):=by
 unfold a39 at hg⊢
 refine hg.mono fun u w' ⟨Z',π',hR⟩=>⟨Z',π',?_⟩
 have e:(σ.app none .unk fz).app o.dst a ws=σ.app o.dst a (ws++fz):=by
  cases o.dst<;>simp [St.app,St.put,List.append_assoc]
 rw [<- e];exact hR
theorem d75 {fz:List (Nat×U.MC)} {q:Nat×U.MC} (hq:q∈fz): ∃m,lk q.1 fz=some m:=by
 induction fz with
 | nil=>cases hq
 | cons r fz ih=>
   show∃m,(bif Nat.beq r.1 q.1 then some r.2 else lk q.1 fz)=some m
   cases hk:Nat.beq r.1 q.1 with
   | true=>exact ⟨_,rfl⟩
   | false=>
     rcases qO.1 hq with e | e
     ·subst e;exact absurd rfl (Nat.ne_of_beq_eq_false hk)
     ·exact ih e
theorem f2y (hU:UOK U) (h:Rel E Z π σ ρ w) {c:U.C} {fs:List U.AV} {css:List (List Value)} {k:List U.AV -> List (Nat×U.MC) -> U.Q} (hp:fs.all u7=true) (hr:m7 (fun a s=> ∃u:Value,u.cells.toList=s /\ b37 (cx Z π σ w) a u) fs css) (hev:(d0r fs k).Ev σ m0 m v ws):
  ∃as' fz m1,(k as' fz).Ev σ m1 m v ws /\ FZ σ fz /\ ∀x:U.T c,U.mkv c as'=some x -> (Rp c).rep (cx (Zf Z π σ fz) π (σ.app none .unk fz) w).G w css.flatten x:=by
 have hus: ∀(fs:List U.AV) (css:List (List Value)),fs.all u7=true -> m7 (fun a s=> ∃u:Value,u.cells.toList=s /\ b37 (cx Z π σ w) a u) fs css -> ∃us:List Value,us.map (fun u=>u.cells.toList)=css /\ m7 (AVR (cx Z π σ w)) fs us:=by
  intro fs
  induction fs with
  | nil=>intro css _ h;cases css with
    | nil=>exact ⟨[],rfl,trivial⟩
    | cons _ _=>exact h.elim
  | cons a fs ih=>intro css hp h;cases css with
    | nil=>exact h.elim
    | cons s css=>
      obtain ⟨u,hu,h1⟩:=h.1
      simp only [List.all_cons,qB] at hp
      obtain ⟨us,g1,g2⟩:=ih css hp.2 h.2
      exact ⟨u::us,by simp [hu,g1],AVR.of1 (.of0 h1),g2⟩
 obtain ⟨us,hus1,hus2⟩:=hus fs css hp hr
 obtain ⟨as',fz,m1,hev,h0,hf,_,hA⟩:=b9p hU h hus2 hev
 have hall:=hA fz hf fun q hq=>⟨hq,d75 hq⟩
 have hrep: ∀(as':List U.AV) (us:List Value),as'.all u7=true -> m7 (AVR (cx (Zf Z π σ fz) π (σ.app none .unk fz) w)) as' us -> m7 (fun a s=> ∃u:Value,u.cells.toList=s /\ a18 (cx (Zf Z π σ fz) π (σ.app none .unk fz) w) a u) as' (us.map fun u=>u.cells.toList):=by
  intro as'
  induction as' with
  | nil=>intro us _ h;cases us with
    | nil=>trivial
    | cons _ _=>exact h.elim
  | cons a as ih=>intro us hp h;cases us with
    | nil=>exact h.elim
    | cons u us=>
      simp only [List.all_cons,qB] at hp
      exact ⟨⟨u,rfl,a6k (by cases a<;>first | rfl | cases hp.1) h.1⟩,ih us hp.2 h.2⟩
 refine ⟨as',fz,m1,hev,hf,fun x hk=> ?_⟩
 have hcs:=c60 hU hk (hrep as' us (h0 hp) hall)
 rw [hus1] at hcs
 exact hcs
theorem d9j (hU:UOK U) (h:Rel E Z π σ ρ w) {t:TypeId} (hx:AVR (cx Z π σ w) a (ev ρ x)) (hev:(f4d P t a).Ev σ m0 m v ws):a39 P E σ ρ w ⟨d,.load t x,ty,ps,af,g⟩ v ws:=by
 cases a<;>try exact hev.elim
 case ref id=>
  have hm:=h.mem id
  have hev:(e6p (σ.mem id) [] fun b=>match b with
   | .st c fs=>d0r fs fun as ws=>match U.mkv c as with
     | some x=>(match b0e P t (.val c x:U.AV) with | true=> .done (.val c x) ws | false=> .fail)
     | none=> .fail
   | b=>match b0e P t b with | true=>Q.done b [] | false=>Q.fail).Ev σ _ m v ws:=hev
  cases hmem:σ.mem id<;>rw [hmem] at hev hm<;>try exact hev.elim
  case box t' a0=>
   simp only [e6p,nav] at hev
   obtain ⟨blk,u,hv,hM,ha⟩:=hm
   have plain:(match b0e P t a0 with | true=>Q.done a0 [] | false=>(Q.fail:U.Q)).Ev σ (m0 ||| 2^(2*id+1)) m v ws -> a39 P E σ ρ w ⟨d,.load t x,ty,ps,af,g⟩ v ws:=by
    intro hev
    split at hev
    ·rename_i hf
     obtain ⟨hm1,rfl,rfl⟩:=hev
     exact b65 hU h (hx.2.1.trans hv) hf ⟨u,ha,hM.ca⟩
    ·exact hev.elim
   cases a0<;>try exact plain hev
   rename_i c fs
   obtain ⟨css,hu,hlay,hp,hr⟩:=ha
   obtain ⟨as',fz,m1,hev,hf,hA⟩:=f2y (c:=c) hU h hp hr hev
   split at hev
   case h_2=>exact hev.elim
   rename_i xv hk
   split at hev
   case h_2=>exact hev.elim
   rename_i hft
   obtain ⟨hm1,hv1,hws⟩:=hev
   rw [hv1,hws]
   refine b4e h hf (ws:=[]) ?_
   have hfr:=h.freeze hf
   have hcs:=hA xv hk
   have hM2:CA w ⟨blk,0,none⟩ u.cells.toList:=hM.ca
   exact b65 hU hfr (hx.2.1.trans hv) hft ⟨.agg css.flatten.toArray,⟨css.flatten,rfl,hcs⟩,by rw [<- hu];exact hM2⟩
 case fref id c p=>
  have hev:(match b5c c (σ.mem id) p with | true=>e6p (σ.mem id) p fun b=>(match b0e P t b with | true=>Q.done b [] | false=>Q.fail) | false=>Q.fail).Ev σ _ m v ws:=hev
  cases hc:b5c c (σ.mem id) p with
  | false=>rw [hc] at hev;exact hev.elim
  | true=>
    rw [hc] at hev
    obtain ⟨hu,ad,had,hok,hv⟩:=hx
    obtain ⟨b,hev,hL⟩:=d4h hU h (.inr hc) hok hev
    cases hf:b0e P t b with
    | false=>rw [hf] at hev;exact hev.elim
    | true=>
      rw [hf] at hev
      obtain ⟨hm1,rfl,rfl⟩:=hev
      exact b65 hU h hv hf (hL ad had)
 case rp b=>
  have hev:(match b0e P t b with | true=>Q.done b [] | false=>Q.fail:U.Q).Ev σ m0 m v ws:=hev
  cases hf:b0e P t b with
  | false=>rw [hf] at hev;exact hev.elim
  | true=>
    rw [hf] at hev
    obtain ⟨hm1,rfl,rfl⟩:=hev
    obtain ⟨ad,cs,hv,hb,hg,hca,hr⟩:=hx
    obtain ⟨u,hu,hr⟩:=a0k hr
    exact b65 hU h hv hf ⟨u,hr,by rw [hu];exact hca⟩
theorem d7f (hU:UOK U) (h:Rel E Z π σ ρ w) {t:TypeId} (hx:AVR (cx Z π σ w) a (ev ρ x)) (hev:(e0i P t a).Ev σ m0 m v ws):a39 P E σ ρ w ⟨d,.load t x,ty,ps,af,g⟩ v ws:=by
 unfold e0i at hev
 split at hev
 case h_2=>exact hev.elim
 rename_i id
 have hm:=h.mem id
 have hev:(match σ.mem id with
  | .box _ (.st c fs)=>(match b0e P t (.st c fs:U.AV) with | true=>Q.done (.st c fs) [] | false=> .fail)
  | _=>(.fail:U.Q)).Ev σ _ m v ws:=hev
 split at hev
 ·rename_i t' c fs hmem
  rw [hmem] at hm
  obtain ⟨blk,u,hv,hM,ha⟩:=hm
  split at hev
  ·rename_i hf
   obtain ⟨hm1,rfl,rfl⟩:=hev
   exact b65 hU h (hx.2.1.trans hv) hf ⟨u,ha,hM.ca⟩
  ·exact hev.elim
 ·exact hev.elim
end
end Go.SX
