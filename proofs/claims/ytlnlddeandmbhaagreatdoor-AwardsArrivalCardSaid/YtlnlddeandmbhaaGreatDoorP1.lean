/- Texts of the proof, joined. -/
import Derived.Calls
import Derived.Orders
import Derived.LoopN
import Derived.LoopNIn
import Derived.OrdersIn
import Derived.Below
import Derived.KernelRfl
import Derived.Laws.Sem
import Derived.Laws.AppendOwn
import Derived.Deep.Slices
import Derived.Laws.StructEq
import Derived.Lib.BytesEntry
import Derived.Lib.Bytealg
import Derived.Laws.BytesString
import Derived.DataElems
set_option linter.defProp false
set_option linter.unusedVariables false
set_option linter.unusedSimpArgs false
set_option maxRecDepth 100000
open List
namespace Go
abbrev O.{u}:=List.{u}
abbrev A3.{u}:=Option.{u}
abbrev A4:=ByteArray
abbrev A5:=Value
def qA:∀{α β:Type _}(a:α)(f:α->A3 β),Option.bind (some a) f=f a:=λ_ _=>rfl
def qB:∀(a b:Bool),((a&&b)=true)=(a=true/\b=true):=by grind
def qC:∀{n m:Nat},Nat.beq n m=true->n=m:=by simp_all
def qD:∀{α:Type _}{i:Nat}{a:α}{l:O α},l[i]?=some a↔∃h:i<l.length,l[i]=a:=by grind
def qE:∀{α:Type _}{l:O α}{i:Nat}{a:α},l[i]?=some a->a∈l:=by grind
def qF:∀{α:Type _}{a b:α},a∈[b]↔a=b:=by grind
def qG:∀{α:Type _}{l:O α}{i:Nat}(h:i<l.length),l[i]?=some l[i]:=by grind
def qH:∀{α:Type _}{a b:α},some a=some b->a=b:=by grind
def qI:∀{α:Type _}{a:α}{l:O α},a∈a::l:=by grind
def qJ:∀{α:Type _}(y:α){a:α}{l:O α},a∈l->a∈y::l:=by grind
def qK:∀{α:Type _}{a:α}{s t:O α},a∈s++t↔a∈s\/a∈t:=by grind
def qL:∀{α:Type _}{a b:O α},(a++b).length=a.length+b.length:=by grind
def qM:(false=true)=False:=by grind
def qN:∀{α:Type _}{i:Nat}{b:α}{xs:Array α},xs[i]?=some b↔∃h:i<xs.size,xs[i]=b:=by grind
def qO:∀{α:Type _}{b:α}{l:O α}{a:α},a∈b::l↔a=b\/a∈l:=by grind
theorem qP:∀{α:Type _}{b:α}{β:Type _}{x:Option β}{f:β->Option α},Option.bind x f=some b↔∃a,x=some a/\f a=some b:=@Option.bind_eq_some_iff
theorem qQ:∀{α:Type _}(a b c:List α),a++b++c=a++(b++c):=@List.append_assoc
theorem qR:∀{α:Type _}{a:α}{l:List α},(a::l).length=l.length+1:=@List.length_cons
theorem qS:∀{α:Type _},([]:List α).length=0:=@List.length_nil
theorem qT:∀{a:Int},0<=a->∃n:Nat,a=n:=@Int.eq_ofNat_of_zero_le
theorem qU:(!true)=false:=Bool.not_true
theorem qV:∀{α:Type _}{l:List α}{n:Nat}(h:n<l.length),l[n]∈l:=@List.getElem_mem
theorem qW:∀{n m:Nat},Nat.ble n m=true->n<=m:=@Nat.le_of_ble_eq_true
theorem qX:∀{α:Type _}{p:α->Bool}{l:List α},l.all p=true↔∀x,x∈l->p x=true:=@List.all_eq_true
end Go
namespace Go.PL
open Go
def Frd(n:Nat)(ρ:Nat->A5)(ds:O Deferred):Act:={tmps:=Array.ofFn (n:=n) λi=>ρ i.1,defers:=ds}
abbrev Fr(n:Nat)(ρ:Nat->A5):Act:=Frd n ρ []
def upd(ρ:Nat->A5)(d:Nat)(v:A5):Nat->A5:=λt=>if t=d then v else ρ t
def b20(ρ:Nat->A5):A3 Tmp->A5->(Nat->A5)|some d,v=>upd ρ d v|none,_=>ρ
def ev(ρ:Nat->A5):Operand->A5|.tmp t=>ρ t|.const v=>v|.global g=>.pointer (some ⟨g,0,none⟩)|.func f=>.func (.func f) #[] #[]
def Operand.below(n:Nat):Operand->Bool|.tmp t=>decide (t<n)|_=>true
def f6c(ρ:Nat->A5)(d:Nat)(v:A5):upd ρ d v d=v:=by simp[upd]
def c1l(ρ:Nat->A5){d t:Nat}(v:A5)(h:t≠d):upd ρ d v t=ρ t:=by simp[upd,h]
def c6r(n:Nat)(ρ:Nat->A5)(ds:O Deferred)(d:A3 Tmp)(v:A5):(Frd n ρ ds).put d v=Frd n (b20 ρ d v) ds:=by cases d with|none=>rfl|some d=>
   simp [Act.put,Frd,b20];apply Array.ext;.simp
   .intro i h1 h2;simp[upd];split<;>simp_all[eq_comm]
def g85{n:Nat}(ρ:Nat->A5){ds:O Deferred}{t:Nat}(h:t<n):(Frd n ρ ds).tmps[t]?=some (ρ t):=by simp[Frd,h]
def b75{n:Nat}{ρ:Nat->A5}{ds:O Deferred}{x:Operand}(h:Operand.below n x=true):(Frd n ρ ds).eval x=ev ρ x:=by cases x<;>simp_all[Operand.below,Act.eval,ev,Frd]
structure Ext(G:Nat->Prop)(w w':World):Prop where
 os:w'.os=w.os
 tape:w'.tape=w.tape
 output:w'.output=w.output
 size:w.heap.size<=w'.heap.size
 block:∀b,b<w.heap.size->¬G b->w'.heap[b]?=w.heap[b]?
def noG:Nat->Prop:=λ_=>False
def Ext.refl(G:Nat->Prop)(w:World):Ext G w w:=⟨rfl,rfl,rfl,Nat.le_refl _,λ_ _ _=>rfl⟩
def Ext.trans{G:Nat->Prop}{a b c:World}(h:Ext G a b)(k:Ext G b c):Ext G a c:=⟨k.os.trans h.os,k.tape.trans h.tape,k.output.trans h.output,Nat.le_trans h.size k.size,λi hi hg=>(k.block i (Nat.lt_of_lt_of_le hi h.size) hg).trans (h.block i hi hg)⟩
def Ext.mono{G G':Nat->Prop}{a b:World}(h:Ext G a b)(hG:∀i,G i->G' i):Ext G' a b:=⟨h.os,h.tape,h.output,h.size,λi hi hg=>h.block i hi (λhh=>hg (hG i hh))⟩
def Ext.of_no{G:Nat->Prop}{a b:World}(h:Ext noG a b):Ext G a b:=h.mono (λ_ hh=>hh.elim)
def Ext.drew{G:Nat->Prop}{a w:World}(h:Ext G a w):Ext G a w.drew:=⟨h.os,h.tape,h.output,h.size,h.block⟩
def Ext.below{w w':World}(h:Ext noG w w'):RowKit.Below w.heap.size w w':=⟨h.os,h.tape,h.output,h.size,λk hk=>h.block k hk (λhh=>hh)⟩
def Ext.alloc(G:Nat->Prop)(w:World)(o:Obj):Ext G w (w.alloc o):=⟨rfl,rfl,rfl,by simp,λk hk _=>RowKit.Below.heap_alloc _ _ _ hk⟩
def a0k(P:Program)(o:Oper)(η:Operand->A5)(w:World)(K:A5->World->Prop):Prop:=match(execOp η o).run P w with|.ok (.value v) w'=>K v w'|.ok .skip w'=>K undef w'|.ok (.enter f args) w'=>Calls P f args w' λe w''=>∃v,e=.returned v/\K v w''|_=>False
def FR(r:A3 Nat):Fence:={Fence.wide with round:=r}
def f5h{r:A3 Nat}{m:Nat}{P:Program}{f:FuncId}{args:Array A5}{w:World}{R:Ending->World->Prop}(h:Calls P f args w R):CallsIn (FR r) m P f args w R:=callsIn_wide.2 h
def a0k.wp{P:Program}{o:Oper}{a:Act}{w:World}{K:A5->World->Prop}{next:Act->World->Prop}{Q:Exit->Act->World->Prop}{r:A3 Nat}{m:Nat}(h:a0k P o a.eval w K)(hn:∀v w',K v w'->next (a.put o.dst v) w'):o.wpIn (FR r) m P a w next Q:=by
 refine⟨λ_ _=>trivial,?_⟩;rw[Oper.semAt_eq _ _ _ (by intro c hc;unfold a0k at h;simp [execOp,hc,Sem.run_bind]at h;cases hr:(resolve _ c _).run P w<;>rw[hr]at h<;>simp[Result.andThen]at h)];unfold a0k at h;generalize(execOp _ o).run P w=q at*;cases q with
 |ok x w'=>cases x with|value v=>exact hn _ _ h|skip=>exact hn _ _ h|enter f args=>exact⟨λhh=>Bool.noConfusion (show false=true from hh),f5h (Calls.mono h λe w''⟨v,he,hk⟩=>by simp_all)⟩|_=>grind
 |halt x w'=>grind
def a0k.mono{P:Program}{o:Oper}{η:Operand->A5}{w:World}{K K':A5->World->Prop}(h:a0k P o η w K)(hn:∀v w',K v w'->K' v w'):a0k P o η w K':=by grind[a0k,Calls.mono]
def yl(ops:O Oper)(ρ:Nat->A5)(g:Nat):A3 Bool:=match(ops[g]?).bind (·.dst)with
 |some d=>match ρ d with|.bool b=>some b|_=>none
 |none=>none
abbrev Fact:=Nat×(A5->World->Prop)
def fact(F:O Fact)(i:Nat)(ρ:Nat->A5)(w:World):Prop:=match F[i]?with|some f=>f.2 (ρ f.1) w|none=>True
def hdV:A5->A3 Nat|.pointer (some a)=>some a.block|.slice (some a) _ _=>some a.block|.map (some b)=>some b|_=>none
structure Plan where B:O (O Nat)U:O (O Nat)E:O (O Nat)mu:O Nat:=[]con:O (Nat×Nat):=[]nw:O (Nat×Nat):=[]tb:O (Nat×Nat):=[]
namespace Plan
def b(p:Plan)(i:Nat):O Nat:=p.B.getD i []
def okB(p:Plan)(ops:O Oper):Bool:=(List.range ops.length).all λi=>(p.b i).all λj=>match ops[i]?with|some o=>o.after.toList.any λx=>Region.binds .any x&&decide (x.on<i)&&(x.on==j||(p.b x.on).contains j)|none=>false
def okAfter(ops:O Oper):Bool:=(List.range ops.length).all λi=>match ops[i]?with|some o=>o.after.toList.all λx=>!Region.binds .any x||decide (x.on<i)|none=>false
def okTmps(ops:O Oper)(n:Nat):Bool:=ops.all λo=>o.op.operands.toList.all (Operand.below n)&&(match o.dst with|some d=>decide (d<n)|none=>true)
def okSel(ops:O Oper):Bool:=ops.all λo=>match o.op with|.select _ _=>false|_=>true
end Plan
section
variable {P:Program} {ops:O Oper} {n:Nat} {G:Nat -> Prop} {ρ0:Nat -> A5} {w0:World} {F:O Fact} {p:Plan}
def f2m{m:Nat}{q:Nat->Bool}(h:(List.range m).all q=true){i:Nat}(hi:i<m):q i=true:=by grind
def e69(hT:Plan.okTmps ops n=true)(ρ:Nat->A5){ds:O Deferred}(g:Nat):yielded ops.toArray (Frd n ρ ds).tmps g=yl ops ρ g:=by unfold yielded yl;simp [getElem?_toArray];cases ho:(ops[g]?).bind _ with|none=>simp|some d=>
   simp [qA];rw[g85 ρ (by cases h2:ops[g]?with|none=>simp_all|some o=>have h3:=qX.1 hT o (qE h2);simp_all)];grind
def c0s(hT:Plan.okTmps ops n=true)(hS:Plan.okSel ops=true){i:Nat}{o:Oper}(ho:ops[i]?=some o)(ρ:Nat->A5){ds:O Deferred}:execOp (Frd n ρ ds).eval o=execOp (ev ρ) o:=by
 have hm:=qE ho;refine execOp_congr o (λcs b hh=>?_) (λx hx=>?_);.have h1:=qX.1 hS o hm;simp_all
 .have h1:=qX.1 hT o hm;simp only[qB]at h1;exact b75 (qX.1 h1.1 x (Array.mem_toList_iff.2 hx))
def d0p:Code->Bool|.seq a b=>d0p a&&d0p b|.cond _ a b=>d0p a&&d0p b|.block _ c|.loop c|.scope c=>d0p c|.rangeFunc _ _ _ _=>false|_=>true
def e2p{a b:Code}{r:A3 Nat}(h:r=none\/(d0p a&&d0p b)=true):(r=none\/d0p a=true)/\(r=none\/d0p b=true):=by grind
def WP(P:Program)(n:Nat)(c:Code)(Q:Exit->(Nat->A5)->World->Prop)(ρ:Nat->A5)(w:World):Prop:=∀(r:A3 Nat)(ds:O Deferred),(r=none\/d0p c=true)->c.wpIn (FR r) 9 P (λe a w=>∃ρ',a=Frd n ρ' ds/\Q e ρ' w) (Frd n ρ ds) w
end
section
variable {P:Program} {n:Nat} {Q:Exit -> (Nat -> A5) -> World -> Prop} {ρ:Nat -> A5} {w:World}
def c11:∀(n:Nat)(l:O Nat),l.Nodup->(∀i∈l,i<n)->l.length<=n
 |0,l,_,h=>by cases l with|nil=>simp|cons x r=>exact absurd (h x (by simp)) (by omega)
 |n+1,l,hnd,h=>by
   by_cases hm:n∈l;.have h1:=c11 n _ (hnd.erase n) (λi hi=>by grind);simp_all
   .have h1:=c11 n l hnd (λi hi=>by grind);omega
def d78(K:(Nat->A5)->World->Prop)(Q:Exit->(Nat->A5)->World->Prop):Exit->(Nat->A5)->World->Prop|.normal,ρ,w=>K ρ w|e,ρ,w=>Q e ρ w
def e48(id:Nat)(Q:Exit->(Nat->A5)->World->Prop):Exit->(Nat->A5)->World->Prop|.exit id',ρ,w=>if id'=id then Q .normal ρ w else Q (.exit id') ρ w|e,ρ,w=>Q e ρ w
def WP.skip(h:Q .normal ρ w):WP P n .skip Q ρ w:=λ_ _ _=>wpIn_skip (by grind)
def WP.exit{id:Nat}(h:Q (.exit id) ρ w):WP P n (.exit id) Q ρ w:=λ_ _ _=>wpIn_exit (by grind)
def WP.ret(h:Q .ret ρ w):WP P n .ret Q ρ w:=λ_ _ _=>wpIn_ret (by grind)
def WP.seq{x y:Code}(h:WP P n x (d78 (WP P n y Q) Q) ρ w):WP P n (.seq x y) Q ρ w:=by intro r ds hr;let⟨hx,hy⟩:=e2p hr;refine wpIn_seq (wpIn_mono (h r ds hx) ?_);rintro e a w'⟨ρ',rfl,hh⟩;cases e<;>first|exact hh r ds hy|exact⟨ρ',rfl,hh⟩
def WP.cond{c:Operand}{x y:Code}{t:Bool}(hb:Operand.below n c=true)(hc:ev ρ c=.bool t)(ht:t=true->WP P n x Q ρ w)(hf:t=false->WP P n y Q ρ w):WP P n (.cond c x y) Q ρ w:=by intro r ds hr;let⟨hx,hy⟩:=e2p hr;exact wpIn_cond_split (by rw[b75 hb,hc]) (λh=>ht h r ds hx) (λh=>hf h r ds hy)
def WP.block{id:Nat}{c:Code}(h:WP P n c (e48 id Q) ρ w):WP P n (.block id c) Q ρ w:=by intro r ds hr;refine wpIn_block (wpIn_mono (h r ds hr) ?_);rintro e a w'⟨ρ',rfl,hh⟩;cases e<;>first|exact⟨ρ',rfl,hh⟩|(simp [e48,Exit.inBlock]at hh⊢;grind)
def WP.loop{c:Code}(I:Nat->(Nat->A5)->World->Prop)(k:Nat)(h0:I k ρ w)(hz:∀ρ w,¬I 0 ρ w)(step:∀k ρ w,I (k+1) ρ w->WP P n c (d78 (I k) Q) ρ w):WP P n (.loop c) Q ρ w:=by
 intro r ds hr;have key:∀k ρ w,I k ρ w->Code.roundsIn (FR r) 9 P c (λe a w=>∃ρ',a=Frd n ρ' ds/\Q e ρ' w) k (Frd n ρ ds) w:=by intro k;induction k with|zero=>simp_all|succ k ih=>intro ρ w h;refine wpIn_mono (step k ρ w h r ds hr) ?_;rintro e a w'⟨ρ',rfl,hh⟩;cases e<;>first|exact ih _ _ hh|exact⟨ρ',rfl,hh⟩
 exact wpIn_loop_rounds k (key k ρ w h0)
def retQ(P:Program)(n:Nat)(fn:Func)(R:A5->World->Prop):Exit->(Nat->A5)->World->Prop|.normal,ρ,w|.ret,ρ,w=>∃v,(results fn (Fr n ρ).tmps).run P w=.ok v w/\R v w|_,_,_=>False
def Calls.of_WP{f:FuncId}{fn:Func}{c:Code}{args:O A5}{R:A5->World->Prop}(hf:P.funcs[f]?=some fn)(hb:fn.body=some c)(hn:fn.ntmps=n)(hargs:args.length<=n)(h:WP P n c (retQ P n fn R) (λt=>args.getD t undef) w):Calls P f args.toArray w λe w'=>∃v,e=.returned v/\R v w':=by
 refine calls_of_wp hf hb (wpIn_wide (n:=9).1 ?_);have ha:({tmps:=args.toArray++Array.replicate (fn.ntmps-args.toArray.size) undef,defers:=[]})=Fr n (λt=>args.getD t undef):=by
  congr 1;apply Array.ext;.simp_all
  .intro i h1 h2;rcases Nat.lt_or_ge i args.length with h3|h3;.simp[h3]
   .simp[h3,by omega]
 rw[ha];refine wpIn_mono (h _ [] (.inl rfl)) ?_;rintro e a w'⟨ρ',rfl,hh⟩;cases e<;>simp [retQ]at hh<;>first|exact hh.elim|(let⟨v,h1,h2⟩:=hh;exact⟨rfl,v,h1,v,rfl,h2⟩)
end
def Plan.plain(B U E:O (O Nat))(mu:O Nat)(con:O (Nat×Nat)):Plan:=⟨B,U,E,mu,con,[],[]⟩
end Go.PL
namespace Go.PL
open Go
abbrev YV(P:Program)(η:Operand->A5)(w:World)(o:Oper)(v:A5):Prop:=(execOp η o).run P w=.ok (.value v) w
section
variable {P:Program} {η:Operand -> A5} {w:World} {d:A3 Tmp} {ty:TypeId} {ps:String} {af:Array Edge} {g:A3 (Nat×Bool)} {x y z:Operand} {v u:A5}
def i64(n:Int):Int:=IntKind.i64.wrap n
def u64(n:Int):Int:=IntKind.u64.wrap n
def c08(h:η x=v):YV P η w ⟨d,.move x,ty,ps,af,g⟩ v:=by subst h;rfl
def b7t(h:η x=v):YV P η w ⟨d,.assign x,ty,ps,af,g⟩ v:=by subst h;rfl
def e22{a:A5}(hc:η x=.bool true)(h:η y=a):YV P η w ⟨d,.pick x y z,ty,ps,af,g⟩ a:=by simp_all[YV,execOp,asBool]
def e2v{a:A5}(hc:η x=.bool false)(h:η z=a):YV P η w ⟨d,.pick x y z,ty,ps,af,g⟩ a:=by simp_all[YV,execOp,asBool]
section
variable {t t':TypeId} {k:IntKind} {a b c:Int} {q:Bool}
def g98(hx:η x=.int k a)(hy:η y=.int k b)(h:k.wrap (a+b)=c):YV P η w ⟨d,.binOp .add t x y t',ty,ps,af,g⟩ (.int k c):=by simp_all[YV,execOp,eqGuard,binOp,Op.intArith]
def g52(hx:η x=.int k a)(hy:η y=.int k b)(h:k.wrap (a-b)=c):YV P η w ⟨d,.binOp .sub t x y t',ty,ps,af,g⟩ (.int k c):=by simp_all[YV,execOp,eqGuard,binOp,Op.intArith]
def h3l(hx:η x=.int k a)(hy:η y=.int k b)(h:k.wrap (a*b)=c):YV P η w ⟨d,.binOp .mul t x y t',ty,ps,af,g⟩ (.int k c):=by simp_all[YV,execOp,eqGuard,binOp,Op.intArith]
def h45(hx:η x=.int k a)(hy:η y=.int k b)(h0:b≠0)(h:k.wrap (a.tdiv b)=c):YV P η w ⟨d,.binOp .quo t x y t',ty,ps,af,g⟩ (.int k c):=by simp_all[YV,execOp,eqGuard,binOp,Op.intDiv]
def h3b(hx:η x=.int k a)(hy:η y=.int k b)(h0:b≠0)(h:a.tmod b=c):YV P η w ⟨d,.binOp .rem t x y t',ty,ps,af,g⟩ (.int k c):=by simp_all[YV,execOp,eqGuard,binOp,Op.intDiv]
def g6f(hx:η x=.int k a)(hy:η y=.int k b)(h:decide (a<b)=q):YV P η w ⟨d,.binOp .lss t x y t',ty,ps,af,g⟩ (.bool q):=by simp_all[YV,execOp,eqGuard,binOp,Op.intCmp]
def h3m(hx:η x=.int k a)(hy:η y=.int k b)(h:decide (a<=b)=q):YV P η w ⟨d,.binOp .leq t x y t',ty,ps,af,g⟩ (.bool q):=by simp_all[YV,execOp,eqGuard,binOp,Op.intCmp]
def h2t(hx:η x=.int k a)(hy:η y=.int k b)(h:decide (b<a)=q):YV P η w ⟨d,.binOp .gtr t x y t',ty,ps,af,g⟩ (.bool q):=by simp_all[YV,execOp,eqGuard,binOp,Op.intCmp]
def g54(hx:η x=.int k a)(hy:η y=.int k b)(h:decide (b<=a)=q):YV P η w ⟨d,.binOp .geq t x y t',ty,ps,af,g⟩ (.bool q):=by simp_all[YV,execOp,eqGuard,binOp,Op.intCmp]
def h4d(hx:η x=.int k a)(hy:η y=.int k b)(h:(a==b)=q):YV P η w ⟨d,.binOp .eql t x y t',ty,ps,af,g⟩ (.bool q):=by simp_all[YV,execOp,eqGuard,binOp,Op.intCmp]
def h32(hx:η x=.int k a)(hy:η y=.int k b)(h:(a !=b)=q):YV P η w ⟨d,.binOp .neq t x y t',ty,ps,af,g⟩ (.bool q):=by simp_all[YV,execOp,eqGuard,binOp,Op.intCmp]
def f0z{p:Bool}(hx:η x=.bool p)(h:(!p)=q):YV P η w ⟨d,.unOp .not t x,ty,ps,af,g⟩ (.bool q):=by simp_all[YV,execOp,Op.unary]
def h27(hx:η x=.int k a)(h:k.wrap (-a)=c):YV P η w ⟨d,.unOp .neg t x,ty,ps,af,g⟩ (.int k c):=by simp_all[YV,execOp,Op.unary,Op.intArith]
end
def g1u{s t:TypeId}(hx:η x=v)(h:(convert s t v).run P w=.ok u w):YV P η w ⟨d,.convert s t x,ty,ps,af,g⟩ u:=by simp[YV,execOp,hx,h]
def c3e{s:TypeId}{f:Nat}(hx:η x=v)(h:(Instr.fieldAt s v f).run P w=.ok u w):YV P η w ⟨d,.fieldAddr s x f,ty,ps,af,g⟩ u:=by simp[YV,execOp,hx,h]
def f0s{s:TypeId}{f:Nat}(hx:η x=v)(h:(Instr.field s v f).run P w=.ok u w):YV P η w ⟨d,.field s x f,ty,ps,af,g⟩ u:=by simp[YV,execOp,hx,h]
def a9v{s:TypeId}{vi:A5}(hx:η x=v)(hy:η y=vi)(h:(Instr.indexAt s v vi).run P w=.ok u w):YV P η w ⟨d,.indexAddr s x y,ty,ps,af,g⟩ u:=by simp_all[YV,execOp]
def d32{s:TypeId}(hx:η x=v)(h:(Instr.loadAt s v).run P w=.ok u w):YV P η w ⟨d,.load s x,ty,ps,af,g⟩ u:=by simp[YV,execOp,hx,h]
def f1c{i:Nat}(hx:η x=v)(h:(Instr.extract v i).run P w=.ok u w):YV P η w ⟨d,.extract x i,ty,ps,af,g⟩ u:=by simp[YV,execOp,hx,h]
def f0w{t:TypeId}{parts:Array (Nat×Operand)}{vs:Array (Nat×A5)}(hp:(parts.map λ(i,x)=>(i,η x))=vs)(h:(Instr.build t vs).run P w=.ok u w):YV P η w ⟨d,.build t parts,ty,ps,af,g⟩ u:=by simp_all[YV,execOp,Sem.run_bind,Result.andThen_ok,Sem.run_pure]
def f6w{t:TypeId}(hx:η x=v)(h:(Builtin.len_ #[t] ty #[v]).run P w=.ok u w):YV P η w ⟨d,.call ⟨.builtin .len,#[x],#[t]⟩,ty,ps,af,g⟩ u:=by simp[YV,execOp,resolve,invoke,builtin,hx,h]
end
def CA(w:World)(a:Addr)(cs:O A5):Prop:=∀j v,cs[j]?=some v->w.cell? (a.add j)=some v
def CA.sub{w:World}{a:Addr}{cs:O A5}(h:CA w a cs)(k m:Nat):CA w (a.add k) ((cs.drop k).take m):=by intro j v hj;rw[Deep.add_add];refine h _ v ?_;rw[getElem?_take]at hj;simp_all
def CA.one{w:World}{a:Addr}{v:A5}(h:CA w a [v]):w.cell? a=some v:=h 0 v rfl
def a2h(a:Addr)(k:Nat):(a.add k).block=a.block:=by grind[Addr.add]
def CA.of_block{w w':World}{a:Addr}{cs:O A5}(h:CA w a cs)(hb:w'.heap[a.block]?=w.heap[a.block]?):CA w' a cs:=by intro j v hj;rw[World.cell?_of_block (w:=w) (by rw[a2h];omega)];exact h j v hj
def e9v{P:Program}{w:World}{t:TypeId}{a:Addr}{v:A5}(ht:(Instr.loadAt t (.pointer (some a))).run P w=(load a).run P w)(h:CA w a [v]):(Instr.loadAt t (.pointer (some a))).run P w=.ok v w:=by rw[ht];simp[h.one]
def b3v{P:Program}{w:World}{a:Addr}:∀(n i:Nat)(acc:Array A5)(cs:O A5),cs.length=n->(∀j v,cs[j]?=some v->w.cell? (a.add (i+j))=some v)->(loadCellsFrom a i n acc).run P w=.ok (acc++cs.toArray) w|0,i,acc,cs,hn,_=>by have:=List.length_eq_zero_iff.1 hn;subst this;simp[loadCellsFrom]|n+1,i,acc,[],hn,_=>by simp_all|n+1,i,acc,c::cs,hn,h=>by have h0:=h 0 c rfl;simp [Nat.add_zero]at h0;simp [loadCellsFrom,Sem.run_bind,run_load,h0,Result.andThen_ok];rw[b3v n _ _ cs (by simp_all) (λj v hj=>by have:=h (j+1) v (by simp_all);grind)];simp
def d6h{P:Program}{w:World}{t:TypeId}{a:Addr}{n:Nat}{cs:O A5}(ht:(Instr.loadAt t (.pointer (some a))).run P w=((do pure (.agg (<-loadCells a n))):Sem A5).run P w)(hn:cs.length=n)(h:CA w a cs):(Instr.loadAt t (.pointer (some a))).run P w=.ok (.agg cs.toArray) w:=by rw[ht];simp[loadCells,b3v n 0 #[] cs hn (λj v hj=>by rw[Nat.zero_add];exact h j v hj)]
def Mb(w:World)(b:Nat)(T:TypeId)(cs:O A5):Prop:=w.heap[b]?=some (.cells cs.toArray T (0,0))
def Mb.lt{w:World}{b:Nat}{T:TypeId}{cs:O A5}(h:Mb w b T cs):b<w.heap.size:=(qN.1 h).1
def Mb.ca{w:World}{b:Nat}{T:TypeId}{cs:O A5}(h:Mb w b T cs):CA w ⟨b,0,none⟩ cs:=by
 intro j v hj;have ha:(⟨b,0,none⟩:Addr).add j=⟨b,j,none⟩:=by unfold Addr.add;simp_all
 rw[ha];unfold World.cell?;rw[show w.heap[b]?=some _ from h];simp_all
def Mb.frozen{w:World}{b:Nat}{T:TypeId}{cs:O A5}(h:Mb w b T cs)(j:Nat):w.frozen? ⟨b,j,none⟩=false:=by unfold World.frozen?;rw[show w.heap[b]?=some _ from h];simp
def Mb.alloc(w:World)(T:TypeId)(cs:O A5):Mb (w.alloc (.cells cs.toArray T)) w.heap.size T cs:=by show(w.heap.push _)[w.heap.size]?=_;simp
def b4d{P:Program}{b:Nat}{T:TypeId}:∀(vs:O A5)(k:Nat)(cs:O A5)(w:World),Mb w b T cs->k+vs.length<=cs.length->(∀v∈vs,v.oneCell'=true)->∃w',(storeCells ⟨b,0,none⟩ vs k).run P w=.ok () w'/\Mb w' b T (cs.take k++vs++cs.drop (k+vs.length))/\Ext (λx=>x=b) w w'
 |[],k,cs,w,h,_,_=>⟨w,by simp[storeCells],by simp_all,Ext.refl _ _⟩|v::vs,k,cs,w,h,hk,h1=>by
   have hklt:k<cs.length:=by grind
   have ha:(⟨b,0,none⟩:Addr).add k=⟨b,k,none⟩:=by unfold Addr.add;simp_all
   have hc:w.cell? ⟨b,k,none⟩=some cs[k]:=by rw[<-ha];exact h.ca k _ (qG _)
   have hst:(store ⟨b,k,none⟩ v).run P w=.ok () (w.setCell ⟨b,k,none⟩ v):=by rw[run_store P w _ v _ (h1 v (by simp))];simp[hc,h.frozen k]
   have hM:Mb (w.setCell ⟨b,k,none⟩ v) b T (cs.set k v):=by show(w.heap.modify b _)[b]?=_;rw[Array.getElem?_modify,show w.heap[b]?=some _ from h];simp
   have hE:Ext _ w (w.setCell ⟨b,k,none⟩ v):=⟨rfl,rfl,rfl,by simp_all,λi _ hne=>RowKit.Below.heap_setCell w _ v i hne⟩;obtain⟨w',hr,hM',hE'⟩:=b4d vs (k+1) _ _ hM (by grind) (λu hu=>h1 u (by grind));refine⟨w',?_,?_,hE.trans hE'⟩;.simp [storeCells,Sem.run_bind,ha,hst,Result.andThen_ok];omega
   .have e:(cs.set k v).take (k+1)++vs++(cs.set k v).drop (k+1+vs.length)=cs.take k++v::vs++cs.drop (k+(v::vs).length):=by
     rw[take_set,drop_set];have h2:(cs.take (k+1)).set k v=cs.take k++[v]:=by rw[take_succ_eq_append_getElem hklt,set_append];simp[Nat.min_eq_left (Nat.le_of_lt hklt)]
     rw[h2];simp[Nat.add_comm,Nat.add_left_comm]
    simp_all
structure TyR(α:Type)where
 n:Nat
 rep:(Nat->Prop)->World->O A5->α->Prop
 len:∀{G w cs x},rep G w cs x->cs.length=n
 ext:∀{G w w' cs x},rep G w cs x->Ext G w w'->rep G w' cs x
 weaken:∀{G G' w cs x},rep G w cs x->(∀b,b<w.heap.size->G' b->G b)->rep G' w cs x
def TyR.flat{α:Type}(n:Nat)(cells:α->O A5)(h:∀x,(cells x).length=n):TyR α where n:=n;rep:=λ_ _ cs x=>cs=cells x;len:=λhr=>hr▸h _;ext:=λhr _=>hr;weaken:=λhr _=>hr
def k9{α:Type}(R:TyR α)(G:Nat->Prop)(w:World)(v:A5)(l:O α):Prop:=(v=.slice none 0 0/\l=[])\/∃a cap,v=.slice (some a) l.length cap/\l.length<=cap/\cap<=maxLen/\(∀i x,l[i]?=some x->∃cs,R.rep G w cs x/\a.block<w.heap.size/\¬G a.block/\CA w (a.add (i*R.n)) cs)
section
variable {α:Type} {R:TyR α} {G:Nat -> Prop} {w w':World} {v:A5} {l:O α}
def k9.ext(h:k9 R G w v l)(hE:Ext G w w'):k9 R G w' v l:=by
 rcases h with h|⟨a,cap,hv,hc,hm,hi⟩;.exact .inl h
 .refine .inr ⟨a,cap,hv,hc,hm,λi x hx=>?_⟩;let⟨cs,hr,hb,hg,hca⟩:=hi i x hx;refine⟨cs,R.ext hr hE,Nat.lt_of_lt_of_le hb hE.size,hg,hca.of_block ?_⟩;rw[a2h];exact hE.block _ hb hg
def k9.weaken{G':Nat->Prop}(h:k9 R G w v l)(hG:∀b,b<w.heap.size->G' b->G b):k9 R G' w v l:=by
 rcases h with h|⟨a,cap,hv,hc,hm,hi⟩;.exact .inl h
 .refine .inr ⟨a,cap,hv,hc,hm,λi x hx=>?_⟩;let⟨cs,hr,hb,hg,hca⟩:=hi i x hx;exact⟨cs,R.weaken hr hG,hb,λh=>hg (hG _ hb h),hca⟩
def k9.nil(R:TyR α)(G:Nat->Prop)(w:World):k9 R G w (.slice none 0 0) []:=.inl ⟨rfl,rfl⟩
def k9.shape(h:k9 R G w v l):∃a cap,v=.slice a l.length cap/\l.length<=cap/\cap<=maxLen:=by cases h<;>grind
def c7(l:O α)(i:Int):A3 α:=if 0<=i then l[i.toNat]?else none
def b8d{i:Int}{x:α}(h:c7 l i=some x):0<=i/\i<(l.length:Int)/\l[i.toNat]?=some x:=by grind[c7]
def k9.get(h:k9 R G w v l){i:Int}{x:α}(hx:c7 l i=some x):∃a cap cs,v=.slice (some a) l.length cap/\(0<=i/\i<(l.length:Int))/\R.rep G w cs x/\a.block<w.heap.size/\¬G a.block/\CA w (a.add (i.toNat*R.n)) cs:=by
 let⟨h0,h1,h2⟩:=b8d hx;rcases h with⟨_,rfl⟩|⟨a,cap,hv,hc,hm,hi⟩;.simp_all
 .let⟨cs,hr,hb,hg,hca⟩:=hi _ _ h2;exact⟨a,cap,cs,hv,⟨h0,h1⟩,hr,hb,hg,hca⟩
end
structure At(w:World)(a:Addr)(cs:O A5):Prop where
 lt:a.block<w.heap.size
 ca:CA w a cs
def k9.getF{α:Type}{n:Nat}{cells:α->O A5}{hn:∀x,(cells x).length=n}{G:Nat->Prop}{w:World}{v:A5}{l:O α}(h:k9 (TyR.flat n cells hn) G w v l){i:Int}{x:α}(hx:c7 l i=some x):∃a cap,v=.slice (some a) l.length cap/\(0<=i/\i<(l.length:Int))/\At w (a.add (i.toNat*n)) (cells x):=by let⟨a,cap,cs,hv,hi,hr,hb,_,hca⟩:=h.get hx;subst hr;exact⟨a,cap,hv,hi,by rw[a2h];omega,hca⟩
def g7a{α β:Type}{o:A3 α}{f:α->A3 β}{r:β}(h:o.bind f=some r):∃x,o=some x/\f x=some r:=by cases o<;>simp_all
def d9{σ ρ:Type}:Nat->((σ->A3 ρ)->σ->A3 ρ)->σ->A3 ρ|0,_,_=>none|k+1,f,s=>f (d9 k f) s
def FU:Nat:=2^70
def c2t(a b:Int):A3 Int:=if b=0then none else some (i64 (a.tdiv b))
def b8t(a b:Int):A3 Int:=if b=0then none else some (a.tmod b)
section
variable {P:Program} {w:World} {G:Nat -> Prop} {ρ:Nat -> A5} {F:O Fact} {p:Plan} {i:Nat}
def h2i{η:Operand->A5}{d:A3 Tmp}{ty:TypeId}{ps:String}{af:Array Edge}{g:A3 (Nat×Bool)}{T:TypeId}{x:Operand}{v u:A5}{w':World}(hx:η x=v)(h:(Instr.box T v).run P w=.ok u w'):(execOp η ⟨d,.box T x,ty,ps,af,g⟩).run P w=.ok (.value u) w':=by simp[execOp,hx,h]
end
section
variable {P:Program} {η:Operand -> A5} {w:World} {d:A3 Tmp} {ty:TypeId} {ps:String} {af:Array Edge} {g:A3 (Nat×Bool)} {x y z:Operand} {v u:A5}
def h0g{k:IntKind}{a b:Int}{ts:Array TypeId}(hx:η x=.int k a)(hy:η y=.int k b):YV P η w ⟨d,.call ⟨.builtin .max,#[x,y],ts⟩,ty,ps,af,g⟩ (.int k (max a b)):=by
 have:(if b>a then b else a)=max a b:=by omega
 simp[YV,execOp,resolve,invoke,builtin,hx,hy,Builtin.max_,Builtin.max2,this]
def g9u{k:IntKind}{a b:Int}{ts:Array TypeId}(hx:η x=.int k a)(hy:η y=.int k b):YV P η w ⟨d,.call ⟨.builtin .min,#[x,y],ts⟩,ty,ps,af,g⟩ (.int k (min a b)):=by
 have:(if b<a then b else a)=min a b:=by omega
 simp[YV,execOp,resolve,invoke,builtin,hx,hy,Builtin.min_,Builtin.min2,this]
def c4r{t e:TypeId}{m:Nat}{a:Addr}{n c:Nat}{i:Int}(ht:P.underlying t=some (.slice e))(he:(P.info? e).map (·.size)=some m)(h:0<=i/\i<(n:Int)):(Instr.indexAt t (.slice (some a) n c) (.int .i64 i)).run P w=.ok (.pointer (some (a.add (i.toNat*m)))) w:=by cases hi:P.info? e with|none=>simp_all|some q=>simp [hi,Option.map_some,Option.some.injEq]at he;simp[Instr.indexAt,run_underlying ht,asIntOf,h,sizeOf,typeInfo,hi,he]
def d4k{t e:TypeId}{m n:Nat}{a:Addr}{i:Int}(ht:P.underlying t=some (.array n e))(he:(P.info? e).map (·.size)=some m)(h:0<=i/\i<(n:Int)):(Instr.indexAt t (.pointer (some a)) (.int .i64 i)).run P w=.ok (.pointer (some (a.add (i.toNat*m)))) w:=by cases hi:P.info? e with|none=>simp_all|some q=>simp [hi,Option.map_some,Option.some.injEq]at he;simp[Instr.indexAt,Instr.sureAddr,run_underlying ht,asIntOf,h,sizeOf,typeInfo,hi,he]
def CA.elem{α:Type}{cells:α->O A5}(n:Nat)(hn:∀x,(cells x).length=n):∀{l:O α}{w:World}{a:Addr}{i:Int}{x:α},CA w a (l.flatMap cells)->c7 l i=some x->CA w (a.add (i.toNat*n)) (cells x):=by
 intro l w a i x h hx;let⟨_,_,h2⟩:=b8d hx;generalize i.toNat=k at*;have key:∀(l:O α)(k:Nat),l[k]?=some x->((l.flatMap cells).drop (k*n)).take n=cells x:=by intro l;induction l with|nil=>simp_all|cons y r ih=>intro k h;cases k with|zero=>simp_all|succ k=>rw[Nat.succ_mul,Nat.add_comm,<-drop_drop];simp_all
 have h3:=h.sub (k*n) n;simp_all
end
def e1t{α:Type}{cells:α->O A5}{l:O α}(h:∀x,∀u∈cells x,u.oneCell'=true):∀u∈l.flatMap cells,u.oneCell'=true:=by grind
def a0p{α:Type}{cells:α->O A5}{n:Nat}(hn:∀x,(cells x).length=n):∀l:O α,(l.flatMap cells).length=l.length*n|[]=>by simp|x::r=>by rw[flatMap_cons,qL,hn,a0p hn r,qR,Nat.succ_mul];omega
def Own{α:Type}(B:Nat)(E:TypeId)(n:Nat)(cells:α->O A5)(w:World)(v:A5)(l:O α):Prop:=(v=.slice none 0 0/\l=[])\/∃g off cap cur,v=.slice (some ⟨g,off,none⟩) l.length cap/\B<=g/\w.heap[g]?=some (.cells cur E (0,0))/\l.length<=cap/\cap<=maxLen/\off+cap*n<=cur.size/\(cur.toList.drop off).take (l.length*n)=l.flatMap cells
section
variable {α:Type} {B:Nat} {E:TypeId} {n:Nat} {cells:α -> O A5} {w w':World} {v:A5} {l:O α}
def Own.nil(B:Nat)(E:TypeId)(n:Nat)(cells:α->O A5)(w:World):Own B E n cells w (.slice none 0 0) ([]:O α):=.inl ⟨rfl,rfl⟩
def Own.lt(h:Own B E n cells w v l){b:Nat}(hb:v.ownBlock=some b):B<=b/\b<w.heap.size:=by
 rcases h with⟨hv,_⟩|⟨g,off,cap,cur,hv,hg,hh,_⟩;.rw[hv]at hb;cases hb
 .rw[hv]at hb;let rfl:=qH hb;grind
def Own.ext{G:Nat->Prop}(h:Own B E n cells w v l)(hE:Ext G w w')(hG:∀b,v.ownBlock=some b->¬G b):Own B E n cells w' v l:=by
 rcases h with h2|⟨g,off,cap,cur,hv,hg,hh,r⟩;.exact .inl h2
 .exact .inr ⟨g,off,cap,cur,hv,hg,(hE.block g (qN.1 hh).1 (hG g (by rw[hv];rfl))).trans hh,r⟩
def Own.exn(h:Own B E n cells w v l)(hE:Ext noG w w'):Own B E n cells w' v l:=h.ext hE (λ_ _ h=>h)
def Own.base{B':Nat}(h:Own B E n cells w v l)(hB:B'<=B):Own B' E n cells w v l:=by
 rcases h with h2|⟨g,off,cap,cur,hv,hg,r⟩;.exact .inl h2
 .exact .inr ⟨g,off,cap,cur,hv,by omega,r⟩
def Own.shape(h:Own B E n cells w v l):∃a cap,v=.slice a l.length cap/\l.length<=cap/\cap<=maxLen:=by
 rcases h with⟨hv,hn⟩|⟨g,off,cap,cur,hv,_,_,hc,hm,_⟩;.grind
 grind
def Own.ca(h:Own B E n cells w v l){a:Addr}{m c:Nat}(hv:v=.slice (some a) m c):CA w a (l.flatMap cells):=by
 rcases h with⟨h1,_⟩|⟨g,off,cap,cur,h1,_,hh,_,_,hs,ht⟩;.grind
 .rw[h1]at hv;obtain⟨rfl,rfl,rfl⟩:=hv;intro j u hu;rw[<-ht]at hu;rw[getElem?_take_of_lt (by have:=(qD.1 hu).1;rw[length_take]at this;omega)]at hu;unfold World.cell?;rw[Addr.add_lit];simp_all
def Own.rep(h:Own B E n cells w v l){hn:∀x,(cells x).length=n}{G:Nat->Prop}(hG:∀b,v.ownBlock=some b->¬G b):k9 (TyR.flat n cells hn) G w v l:=by
 have hca:=λa m c(hv:v=.slice (some a) m c)=>h.ca hv;rcases h with⟨hv,hl⟩|⟨g,off,cap,cur,hv,hg,hh,hc,hm,hs,ht⟩;.exact .inl ⟨hv,hl⟩
 .refine .inr ⟨⟨g,off,none⟩,cap,hv,hc,hm,λi x hx=>⟨cells x,rfl,(qN.1 hh).1,hG g (by rw[hv];rfl),?_⟩⟩;exact (CA.elem n hn (hca _ _ _ hv) (i:=(i)) (by unfold c7;simpa using hx))
def Own.ofRow{m:Nat}(h:w.ownsRow B E n v m (l.flatMap cells))(hm:m=l.length):Own B E n cells w v l:=by
 subst hm;rcases h.2with⟨hv,hl⟩|⟨g,cap,cur,hv,hg,hh,hc,hm,hs,ht⟩;.exact .inl (by simp_all)
 .exact .inr ⟨g,0,cap,cur,hv,hg,hh,hc,hm,by omega,by simp_all⟩
end
def a4n{α:Type}(bytes:Nat)(l x:O α):A3 (O α):=if(l.length+x.length)*bytes<=140737488355328then some (l++x)else none
def e8h{α:Type}{bytes:Nat}{l x r:O α}(h:a4n bytes l x=some r):(l.length+x.length)*bytes<=140737488355328/\l++x=r:=by grind[a4n]
section
variable {P:Program} {w:World}
def d1y{α:Type}{B:Nat}{t ty E:TypeId}{n bytes:Nat}{cells:α->O A5}{v x:A5}{l xs:O α}(hn:∀x,(cells x).length=n)(h1:∀x,∀u∈cells x,u.oneCell'=true)(ht:P.underlying t=some (.slice E))(hi:(P.info? E).map (λi=>(i.zero.map (·.cells.size),i.size,i.bytes))=some (some n,n,bytes))(hpos:0<n)(hbpos:0<bytes)(hown:Own B E n cells w v l)(hx:∃G,k9 (TyR.flat n cells hn) G w x xs)(hb:(l.length+xs.length)*bytes<=140737488355328)(hB:B<=w.heap.size):∃v' w',(Builtin.append_ #[t,t] ty #[v,x]).run P w=.ok v' w'/\Own B E n cells w' v' (l++xs)/\Ext (λb=>v.ownBlock=some b) w w'/\(∀b,v'.ownBlock=some b->v.ownBlock=some b\/w.heap.size<=b):=by cases hinfo:P.info? E with|none=>simp_all|some i=>
   simp only[hinfo,Option.map_some,Option.some.injEq,Prod.mk.injEq]at hi;let⟨hz,hsize,hby⟩:=hi;let⟨z,hz1,hz2⟩:=Option.map_eq_some_iff.1 hz;have hlen:l.length+xs.length<=maxLen:=by have:(l.length+xs.length)*1<=(l.length+xs.length)*bytes:=Nat.mul_le_mul_left _ hbpos;simp [maxLen];omega
   have fin:∀(a:Addr)(m c:Nat)(news:O A5),x=.slice (some a) m c->m=xs.length->news=xs.flatMap cells->(∀j u,news[j]?=some u->w.cell? (a.add j)=some u)->∃v' w',(Builtin.append_ #[t,t] ty #[v,x]).run P w=.ok v' w'/\Own B E n cells w' v' (l++xs)/\Ext (λb=>v.ownBlock=some b) w w'/\(∀b,v'.ownBlock=some b->v.ownBlock=some b\/w.heap.size<=b):=by
    intro a m c news hxe hm hnews hc;subst hxe;have hnl:news.length=m*n:=by rw[hnews,hm,a0p hn]
    have hone:∀u∈news,u.oneCell'=true:=by grind
    rcases hown with⟨rfl,rfl⟩|⟨g,off,cap,cur,rfl,hBg,hgg,hlc,hcm,hsz,htk⟩;.let⟨v',w',hr,ho,hg,_⟩:=run_append_own w w.heap.size t ty E i z n bytes ht hinfo hz1 hsize hby hz2 hpos _ 0 [] (World.ownsRow_nil w _ E n) a m c news hnl hc hone (by omega) (by grind) (by omega);have hO:Own w.heap.size E n cells w' v' ([]++xs):=Own.ofRow (m:=0+m) (by grind) (by grind);exact⟨v',w',hr,hO.base hB,⟨hg.os,hg.tape,hg.output,hg.size,λb hb hne=>hg.block b hb (λe=>hne e.symm)⟩,λb hvb=>.inr (hO.lt hvb).1⟩
    .have hfl:=a0p hn l;have hca:=Own.ca (.inr ⟨g,off,cap,cur,rfl,hBg,hgg,hlc,hcm,hsz,htk⟩) rfl;by_cases hroom:l.length+m<=cap
     .have hmn:(l.length+m)*n<=cap*n:=Nat.mul_le_mul_right _ hroom;rw[Nat.add_mul]at hmn;have hf:=run_firstCells_some (P:=P) w i.size m a m c news (by grind) hc;have hst:=run_storeCells_at P g (off+l.length*n) E news 0 cur w hgg (by omega) hone;refine⟨.slice (some ⟨g,off,none⟩) (l.length+m) cap,w.setRow g (cur.toList.take (off+l.length*n)++news++cur.toList.drop (off+l.length*n+news.length)).toArray,?_,?_,⟨rfl,rfl,rfl,by simp,λk _ hk=>setRow_other w g k _ (λe=>hk (by simp[Value.ownBlock,e]))⟩,λb hvb=>.inl hvb⟩;.rw[hsize]at hf;simp[Builtin.append_,run_underlying ht,sizeOf,typeInfo,hinfo,Builtin.lenOf,hroom,hf,Addr.add_lit,hsize,hst]
      .refine .inr ⟨g,off,cap,_,by rw[qL,hm],hBg,setRow_heap w g cur _ E _ hgg,by rw[qL];omega,hcm,?_,?_⟩;.simp only[size_toArray,qL,length_take,length_drop,Array.length_toList];omega
       .have hc1:cur.toList.take (off+l.length*n)=cur.toList.take off++l.flatMap cells:=by rw[take_add,htk]
        have hlo:(cur.toList.take off).length=off:=by rw[length_take,Array.length_toList];omega
        rw[hc1,qQ,qQ];have:(cur.toList.take off++(l.flatMap cells++(news++cur.toList.drop (off+l.length*n+news.length)))).drop off=l.flatMap cells++(news++cur.toList.drop (off+l.length*n+news.length)):=by simp[hlo]
        rw[this,<-qQ,flatMap_append,<-hnews];have hl2:(l++xs).length*n=(l.flatMap cells++news).length:=by rw[qL,qL,hfl,hnl,hm,Nat.add_mul]
        rw[hl2];exact take_left
     .have hsm:=by
       have:l.length+m<=maxLen:=by omega
       simp [maxLen]at this;omega
      have hr:=run_append_grow w t ty E i z ht hinfo hz1 ⟨g,off,none⟩ l.length cap (l.flatMap cells) (by grind) hca a m c news (by grind) hc (by omega) (by omega) (growslice_fits (by omega) (by rw[hm,hby];omega));have hge:=grownCap_ge w (l.length+m) cap E;have hcm2:=grownCap_le_maxLen w (l.length+m) cap E (by omega);refine⟨_,_,hr,?_,⟨rfl,rfl,rfl,by simp,λk hk _=>heap_alloc_old w.drew _ k hk⟩,λb hvb=>?_⟩
      .refine .inr ⟨w.heap.size,0,_,_,by rw[qL,hm],hB,heap_alloc_new w.drew _,by rw[qL];omega,hcm2,?_,?_⟩;.simp only[Array.size_append,size_toArray,size_zeroCells,hz2,hfl,hnl,<-Nat.add_mul,Nat.zero_add];exact Nat.mul_le_mul_right _ (by omega)
       .simp only[Array.toList_append,qQ,drop_zero];rw[<-qQ,flatMap_append,<-hnews];have hl2:(l++xs).length*n=(l.flatMap cells++news).length:=by rw[qL,qL,hfl,hnl,hm,Nat.add_mul]
        rw[hl2];exact take_left
      .right;obtain rfl:=qH hvb;exact Nat.le_refl _
   let⟨G,hx⟩:=hx;rcases hx with⟨hxv,hxl⟩|⟨a,cap,hxv,_,_,hi⟩;.--anilsource
    subst hxl;subst hxv;refine⟨v,w,?_,by simpa using hown,Ext.refl _ _,λb hb=>.inl hb⟩;rcases hown with⟨hv,hl⟩|⟨g,off,cap,cur,hv,_,hgg,hnc,_⟩;.rw[hv];simp[Builtin.append_,run_underlying ht,sizeOf,typeInfo,hinfo,Builtin.lenOf,Builtin.firstCells]
    .rw[hv];simp[Builtin.append_,run_underlying ht,sizeOf,typeInfo,hinfo,Builtin.lenOf,Builtin.firstCells,hnc,storeCells]
   .refine fin a xs.length cap (xs.flatMap cells) hxv rfl rfl ?_;intro j u hu;have hjl:=by have:=(qD.1 hu).1;rwa[a0p hn]at this
    have hk:=(Nat.div_lt_iff_lt_mul hpos).2 hjl;let⟨cs,hcs,_,_,hca⟩:=hi (j/n) xs[j/n] (qG hk);subst hcs;have hu':(cells xs[j/n])[j%n]?=some u:=by
     have key:∀(xs:O α)(k r:Nat),r<n->(hk:k<xs.length)->(xs.flatMap cells)[k*n+r]?=(cells xs[k])[r]?:=by intro xs;induction xs with|nil=>intro k r _ hk;simp at hk|cons y ys ih=>intro k r hr hk;cases k with|zero=>simp [Nat.zero_mul,Nat.zero_add,flatMap_cons,getElem_cons_zero];rw[getElem?_append_left (by rw[hn];omega)]|succ k=>rw[flatMap_cons,getElem?_append_right (by rw[hn,Nat.succ_mul];omega),hn,Nat.succ_mul];have:=ih k r hr (by simpa using hk);simp [getElem_cons_succ];rw[<-this];congr 1;omega
     have:=key xs (j/n) (j%n) (Nat.mod_lt _ hpos) hk;rw[<-this,Nat.div_add_mod' j n];omega
    have h3:=hca (j%n) u hu';rw[Deep.add_add]at h3;rwa[show(TyR.flat n cells hn).n=n from rfl,Nat.div_add_mod' j n]at h3
end
def Mb.own{α:Type}{B n:Nat}{cells:α->O A5}{w:World}{b:Nat}{E:TypeId}{l:O α}{k:Nat}(h:Mb w b E (l.flatMap cells))(hB:B<=b)(hk:l.length=k)(hm:k<=maxLen)(hn:∀x,(cells x).length=n):Own B E n cells w (.slice (some ⟨b,0,none⟩) k k) l:=by subst hk;refine .inr ⟨b,0,l.length,_,rfl,hB,h,Nat.le_refl _,hm,by simp[a0p hn],?_⟩;have e:=(a0p hn l).symm;grind
def a1x{α:Type}(l:O α)(lo hi:Int):A3 (O α):=if 0<=lo/\lo<=hi/\hi<=(l.length:Int)then some ((l.drop lo.toNat).take (hi.toNat-lo.toNat))else none
def b3y{α:Type}{l r:O α}{lo hi:Int}(h:a1x l lo hi=some r):0<=lo/\lo<=hi/\hi<=(l.length:Int)/\r=(l.drop lo.toNat).take (hi.toNat-lo.toNat):=by grind[a1x]
def k9.cut{α:Type}{R:TyR α}{G:Nat->Prop}{w:World}{v:A5}{l r:O α}{lo hi:Int}(h:k9 R G w v l)(hs:a1x l lo hi=some r):∃a cap,v=.slice a l.length cap/\hi.toNat<=cap/\k9 R G w (.slice (if cap=lo.toNat then a else a.map (·.add (lo.toNat*R.n))) (hi.toNat-lo.toNat) (cap-lo.toNat)) r:=by
 let⟨h0,h1,h2,hr⟩:=b3y hs;have hlen:r.length=hi.toNat-lo.toNat:=by rw[hr,length_take,length_drop];omega
 rcases h with⟨hv,rfl⟩|⟨a,cap,hv,hc,hm,hi'⟩
 .refine⟨none,0,hv,by simp_all,.inl ⟨?_,by simp_all⟩⟩;have e1:lo.toNat=0:=by grind
  simp_all
 .refine⟨some a,cap,hv,by omega,.inr ?_⟩;by_cases hz:cap=lo.toNat;.refine⟨a,cap-lo.toNat,by grind,by omega,by omega,λi x hx=>?_⟩;have:r=[]:=List.length_eq_zero_iff.1 (by omega);rw[this]at hx;simp at hx
  .refine⟨a.add (lo.toNat*R.n),cap-lo.toNat,by grind,by omega,by omega,λi x hx=>?_⟩;rw[hr,getElem?_take]at hx;split at hx;.rw[getElem?_drop]at hx;let⟨cs,h3,h4,h5,h6⟩:=hi' _ _ hx;refine⟨cs,h3,by rw[a2h];omega,by rw[a2h];omega,?_⟩;rw[Deep.add_add,<-Nat.add_mul];omega
   grind
section
variable {P:Program} {w:World} {α:Type} {R:TyR α} {G:Nat -> Prop} {v:A5} {l r:O α} {t e:TypeId}
def g60{lo hi:A3 A5}{i j:Int}(ht:P.underlying t=some (.slice e))(he:(P.info? e).map (·.size)=some R.n)(h:k9 R G w v l)(hs:a1x l i j=some r)(hlo:(lo=none/\i=0)\/lo=some (.int .i64 i))(hhi:(hi=none/\j=(l.length:Int))\/hi=some (.int .i64 j)):∃u,(Instr.sliceAt t v lo hi none).run P w=.ok u w/\k9 R G w u r:=by let⟨a,cap,hv,hcap,hrep⟩:=h.cut hs;let⟨h0,h1,h2,_⟩:=b3y hs;refine⟨_,?_,hrep⟩;cases hinfo:P.info? e with|none=>simp_all|some q=>
   simp [hinfo,Option.map_some,Option.some.injEq]at he;subst hv;have hj:(0<=j/\j<=(cap)):=by omega
   have hij:(0<=i/\i<=(j.toNat)):=by omega
   rcases hlo with⟨rfl,rfl⟩|rfl<;>rcases hhi with⟨rfl,hl⟩|rfl
   .have e1:=by omega
    simp[Instr.sliceAt,Instr.slice,run_underlying ht,Instr.sliceBounds,sizeOf,typeInfo,hinfo,e1]
   .simp[Instr.sliceAt,Instr.slice,run_underlying ht,Instr.sliceBounds,Instr.sliceBound,asIntOf,hj,sizeOf,typeInfo,hinfo]
   .have e1:j.toNat=l.length:=by omega
    rw[e1]at hij;simp[Instr.sliceAt,Instr.slice,run_underlying ht,Instr.sliceBounds,Instr.sliceBound,asIntOf,hij,sizeOf,typeInfo,hinfo,he,e1]
   .simp[Instr.sliceAt,Instr.slice,run_underlying ht,Instr.sliceBounds,Instr.sliceBound,asIntOf,hj,hij,sizeOf,typeInfo,hinfo,he];omega
end
def d5y(k:IntKind)(a b:Int):Int:=k.wrap (BitVec.ofInt k.bits a&&&BitVec.ofInt k.bits b).toNat
def orK(k:IntKind)(a b:Int):Int:=k.wrap (BitVec.ofInt k.bits a|||BitVec.ofInt k.bits b).toNat
def h2r(k:IntKind)(a b:Int):Int:=k.wrap (BitVec.ofInt k.bits a^^^BitVec.ofInt k.bits b).toNat
def e70(k:IntKind)(a b:Int):Int:=k.wrap (a*2^(min b.toNat k.bits))
def c8u(k:IntKind)(a b:Int):Int:=a.fdiv (2^(min b.toNat k.bits))
def g2a(k:IntKind)(a b:Int):A3 Int:=if b<0then none else some (e70 k a b)
def d0l(k:IntKind)(a b:Int):A3 Int:=if b<0then none else some (c8u k a b)
def d65{k:IntKind}{a b c:Int}(h:g2a k a b=some c):¬b<0/\e70 k a b=c:=by grind[g2a]
def d8z{k:IntKind}{a b c:Int}(h:d0l k a b=some c):¬b<0/\c8u k a b=c:=by grind[d0l]
def b3c(s:A4)(i:Int):A3 Int:=if 0<=i then(s[i.toNat]?).map (λb=>(b.toNat:Int))else none
section
variable {P:Program} {η:Operand -> A5} {w:World} {d:A3 Tmp} {ty:TypeId} {ps:String} {af:Array Edge} {g:A3 (Nat×Bool)} {x y z:Operand} {v u:A5} {t t':TypeId} {k k2:IntKind} {a b c:Int} {q:Bool}
def h25(hx:η x=.int k a)(hy:η y=.int k b)(h:d5y k a b=c):YV P η w ⟨d,.binOp .and t x y t',ty,ps,af,g⟩ (.int k c):=by simp_all[YV,execOp,eqGuard,binOp,Op.intBits,d5y]
def o_or(hx:η x=.int k a)(hy:η y=.int k b)(h:orK k a b=c):YV P η w ⟨d,.binOp .or t x y t',ty,ps,af,g⟩ (.int k c):=by simp_all[YV,execOp,eqGuard,binOp,Op.intBits,orK]
def h3g(hx:η x=.int k a)(hy:η y=.int k b)(h:h2r k a b=c):YV P η w ⟨d,.binOp .xor t x y t',ty,ps,af,g⟩ (.int k c):=by simp_all[YV,execOp,eqGuard,binOp,Op.intBits,h2r]
def h4c(hx:η x=.int k a)(hy:η y=.int k2 b)(h0:¬b<0)(h:e70 k a b=c):YV P η w ⟨d,.binOp .shl t x y t',ty,ps,af,g⟩ (.int k c):=by subst h;simp[YV,execOp,hx,hy,eqGuard,binOp,Op.shift,h0,e70]
def h3d(hx:η x=.int k a)(hy:η y=.int k2 b)(h0:¬b<0)(h:c8u k a b=c):YV P η w ⟨d,.binOp .shr t x y t',ty,ps,af,g⟩ (.int k c):=by subst h;simp[YV,execOp,hx,hy,eqGuard,binOp,Op.shift,h0,c8u]
def g5o{s:A4}(hx:η x=.string s)(hy:η y=.int k2 b)(ht:P.underlying t=some .string)(h:b3c s b=some c):YV P η w ⟨d,.index t x y,ty,ps,af,g⟩ (.int .u8 c):=by
 unfold b3c at h;split at h;.rename_i h0;let⟨r,hr,hrc⟩:=Option.map_eq_some_iff.1 h;subst hrc;simp[YV,execOp,hx,hy,Instr.index,asIntOf,run_underlying ht,h0,hr]
 grind
def h3y{xs ys:Array A5}{r:Bool}(hx:η x=.agg xs)(hy:η y=.agg ys)(hm:P.eqGuardType P.depth t=false)(h:(Op.equalIn 10000 t (.agg xs) (.agg ys)).run P w=.ok r w)(hq:r=q):YV P η w ⟨d,.binOp .eql t x y t',ty,ps,af,g⟩ (.bool q):=by simp_all[YV,execOp,Sem.run_bind,Result.andThen_ok,Sem.run_pure,run_eqGuard_agg,run_eql_struct]
def h42{xs ys:Array A5}{r:Bool}(hx:η x=.agg xs)(hy:η y=.agg ys)(hm:P.eqGuardType P.depth t=false)(h:(Op.equalIn 10000 t (.agg xs) (.agg ys)).run P w=.ok r w)(hq:(!r)=q):YV P η w ⟨d,.binOp .neq t x y t',ty,ps,af,g⟩ (.bool q):=by simp_all[YV,execOp,Sem.run_bind,Result.andThen_ok,Sem.run_pure,run_eqGuard_agg,run_neq_struct]
def g7c{p r:Bool}(hx:η x=.bool p)(hy:η y=.bool r)(ht:P.underlying t=some .bool)(h:(p==r)=q):YV P η w ⟨d,.binOp .eql t x y t',ty,ps,af,g⟩ (.bool q):=by simp_all[YV,execOp,eqGuard,binOp,run_equal_bool]
def g7v{p r:Bool}(hx:η x=.bool p)(hy:η y=.bool r)(ht:P.underlying t=some .bool)(h:(p !=r)=q):YV P η w ⟨d,.binOp .neq t x y t',ty,ps,af,g⟩ (.bool q):=by cases r<;>simp_all[YV,execOp,eqGuard,binOp,run_equal_bool]
def e5f{fn:Fn}{cap:Array Operand}{cs:Array A5}(h:cap.map η=cs):YV P η w ⟨d,.makeFunc fn #[] cap,ty,ps,af,g⟩ (.func fn #[] cs):=by simp_all[YV,execOp,Instr.makeFunc]
end
def g44{P:Program}{w:World}{d:Nat}{xs ys:Array A5}{l:O Field}(hl:l.isEmpty=true):(Op.eqFields d xs ys l).run P w=.ok true w:=by rw[List.isEmpty_iff.1 hl];simp[Op.eqFields]
def f8g{P:Program}{w:World}{d off:Nat}{t:TypeId}{xs ys:Array A5}{l:O Field}{a b:A5}{r s:Bool}(hl:l.head?.map (λf=>(f.name != "_",f.type,f.offset))=some (true,t,off))(h1:(part t xs off).run P w=.ok a w)(h2:(part t ys off).run P w=.ok b w)(h3:(Op.equalIn d t a b).run P w=.ok r w)(h4:(Op.eqFields d xs ys l.tail).run P w=.ok s w):(Op.eqFields d xs ys l).run P w=.ok (r&&s) w:=by cases l with|nil=>simp_all|cons f fs=>simp [head?_cons,Option.map_some,Option.some.injEq,Prod.mk.injEq,bne_iff_ne,ne_eq]at hl;rw[Op.eqFields];cases r;all_goals simp_all
def a8h{α:Type}(l:O α)(i:Int)(x:α):O α:=if 0<=i then l.set i.toNat x else l
def a34{α:Type}(l:O α)(i:Int)(x:α):(a8h l i x).length=l.length:=by grind[a8h]
def d03{α:Type}{cells:α->O A5}{n:Nat}(hn:∀x,(cells x).length=n)(x:α):∀(l:O α)(k:Nat),k<l.length->(l.flatMap cells).take (k*n)++cells x++(l.flatMap cells).drop (k*n+n)=(l.set k x).flatMap cells
 |[],k,h=>by grind|y::r,0,_=>by simp_all|y::r,k+1,h=>by
   have e1:(k+1)*n=(cells y).length+k*n:=by grind
   rw[flatMap_cons,set_cons_succ,flatMap_cons,<-(d03 hn x r k (by simp_all)),e1,take_length_add_append,Nat.add_assoc];simp
def d8l{α:Type}{cells:α->O A5}{n:Nat}(hn:∀x,(cells x).length=n){l:O α}{i:Int}{x y:α}(h:c7 l i=some y){vs:O A5}(hvs:vs=cells x):(l.flatMap cells).take (i.toNat*n)++vs++(l.flatMap cells).drop (i.toNat*n+vs.length)=(a8h l i x).flatMap cells:=by let⟨h0,h1,_⟩:=b8d h;subst hvs;rw[hn,a8h,if_pos h0];exact d03 hn x l _ (by omega)
section
variable {P:Program} {w:World} {G:Nat -> Prop} {ρ:Nat -> A5} {F:O Fact} {p:Plan} {i:Nat}
def b23{a:Addr}:∀(vs:O A5)(k j:Nat),(storeCells (a.add k) vs j).run P w=(storeCells a vs (k+j)).run P w:=by intro vs;induction vs generalizing w with|nil=>simp[storeCells]|cons v r ih=>simp [storeCells,Sem.run_bind,Deep.add_add];grind
def c2z{t:TypeId}{x y:Operand}{ty:TypeId}{ps:String}{af:Array Edge}{g:A3 (Nat×Bool)}{dd b k:Nat}{T:TypeId}{a:Addr}{vs cs cs0:O A5}{v:A5}(hF:F[i]?=some (dd,λ_ w'=>Mb w' b T cs))(hm:p.mu.contains i=true)(hG:∀x,x=b->G x)(hx:ev ρ x=.pointer (some a))(ha:a=(⟨b,0,none⟩:Addr).add k)(hy:ev ρ y=v)(hM:Mb w b T cs0)(hst:∀(a:Addr)(w:World),(Instr.storeAt t (.pointer (some a)) v).run P w=(storeCells a vs).run P w)(hk:k+vs.length<=cs0.length)(hcs:cs0.take k++vs++cs0.drop (k+vs.length)=cs)(h1:∀u∈vs,u.oneCell'=true):a0k P ⟨none,.store t x y,ty,ps,af,g⟩ (ev ρ) w λv w'=>Ext (if p.mu.contains i then G else noG) w w'/\fact F i (b20 ρ none v) w':=by
 let⟨w',hr,hM',hE⟩:=b4d (P:=P) vs k cs0 w hM hk h1;have hrun:(execOp (ev ρ) ⟨none,.store t x y,ty,ps,af,g⟩).run P w=.ok .skip w':=by simp[execOp,hx,hy,hst,ha,(b23 vs k 0),hr]
 unfold a0k;rw[hrun,hm];refine⟨hE.mono hG,?_⟩;unfold fact;simp_all
def Own.mb{α:Type}{B:Nat}{E:TypeId}{n:Nat}{cells:α->O A5}{v:A5}{l:O α}(h:Own B E n cells w v l){a:Addr}{m c:Nat}(hv:v=.slice (some a) m c):∃b o cur,a=⟨b,o,none⟩/\v.ownBlock=some b/\B<=b/\Mb w b E cur/\m=l.length/\m<=c/\c<=maxLen/\o+c*n<=cur.length/\(cur.drop o).take (l.length*n)=l.flatMap cells:=by
 rcases h with⟨h1,_⟩|⟨g,off,cap,cur,h1,hg,hh,hc,hm,hs,ht⟩;.grind
 .rw[h1]at hv;obtain⟨rfl,rfl,rfl⟩:=hv;refine⟨g,off,cur.toList,rfl,by rw[h1];rfl,hg,?_,rfl,hc,hm,by omega,ht⟩;simpa[Mb]using hh
def d49{α:Type}{B:Nat}{E:TypeId}{n off:Nat}{cells:α->O A5}{t:TypeId}{x y:Operand}{ty:TypeId}{ps:String}{af:Array Edge}{g:A3 (Nat×Bool)}{dd m c:Nat}{a a0:Addr}{vs:O A5}{v v0:A5}{l:O α}{j:Int}{y0 y1:α}(hF:F[i]?=some (dd,λ_ w'=>Own B E n cells w' v0 (a8h l j y1)))(hm:p.mu.contains i=true)(hG:∀b,v0.ownBlock=some b->G b)(hn:∀x,(cells x).length=n)(hx:ev ρ x=.pointer (some a))(hv:v0=.slice (some a0) m c)(ha:a=a0.add (j.toNat*n+off))(hy:ev ρ y=v)(hO:Own B E n cells w v0 l)(hj:c7 l j=some y0)(hst:∀(a:Addr)(w:World),(Instr.storeAt t (.pointer (some a)) v).run P w=(storeCells a vs).run P w)(hle:off+vs.length<=n)(hcs:(cells y0).take off++vs++(cells y0).drop (off+vs.length)=cells y1)(h1:∀u∈vs,u.oneCell'=true):a0k P ⟨none,.store t x y,ty,ps,af,g⟩ (ev ρ) w λv w'=>Ext (if p.mu.contains i then G else noG) w w'/\fact F i (b20 ρ none v) w':=by
 obtain⟨b,o,cur0,rfl,hob,hB,hM,hml,hmc,hcm,hlen0,htake⟩:=hO.mb hv;let⟨cur,hcur0⟩:∃cur,cur=cur0.drop o:=⟨_,rfl⟩;rw[<-hcur0]at htake;have hlen:c*n<=cur.length:=by rw[hcur0,length_drop];omega
 let⟨h0,hlt,hget⟩:=b8d hj;have hjn:j.toNat*n+n<=l.length*n:=by rw[<-Nat.succ_mul];exact Nat.mul_le_mul_right n (by omega)
 have hln:l.length*n<=cur.length:=Nat.le_trans (Nat.mul_le_mul_right n (by omega)) hlen;have hcl:cur.length=cur0.length-o:=by rw[hcur0,length_drop]
 let⟨w',hr,hM',hE⟩:=b4d (P:=P) vs (o+(j.toNat*n+off)) _ w hM (by omega) h1;have hrun:(execOp (ev ρ) ⟨none,.store t x y,ty,ps,af,g⟩).run P w=.ok .skip w':=by
  have h3:(⟨b,o,none⟩:Addr).add (j.toNat*n+off)=(⟨b,0,none⟩:Addr).add (o+(j.toNat*n+off)):=by rw[Addr.add_lit,Addr.add_lit,Nat.zero_add]
  simp[execOp,hx,hy,hst,ha,h3,(b23 vs _ 0),hr]
 unfold a0k;rw[hrun,hm];refine⟨hE.mono (λc hc=>hG c (by rw[hc];omega)),?_⟩;unfold fact;rw[hF];have hcur:cur=l.flatMap cells++cur.drop (l.length*n):=by rw[<-htake,take_append_drop]
 have hfl:=a0p hn l;have key:cur.take (j.toNat*n+off)++vs++cur.drop (j.toNat*n+off+vs.length)=(a8h l j y1).flatMap cells++cur.drop (l.length*n):=by
  have hset:=d8l hn hj (x:=y1) rfl;rw[hn]at hset;have hel:=by
   have hsplit:∀(l:O α)(k:Nat),l[k]?=some y0->((l.flatMap cells).drop (k*n)).take n=cells y0:=by intro l;induction l with|nil=>intro k h;simp at h|cons z r ih=>intro k h;cases k with|zero=>simp at h;subst h;simp[<-hn z]|succ k=>rw[flatMap_cons,Nat.succ_mul,Nat.add_comm,<-drop_drop,<-hn z,drop_left];have:=ih k (by simpa using h);rw[<-hn z]at this;omega
   exact hsplit l _ hget
  have hmid:(l.flatMap cells).drop (j.toNat*n)=cells y0++(l.flatMap cells).drop (j.toNat*n+n):=by rw[<-hel,<-drop_drop,take_append_drop]
  have e1:cur.take (j.toNat*n+off)=(l.flatMap cells).take (j.toNat*n)++(cells y0).take off:=by
   conv=>lhs;rw[hcur]
   rw[take_append_of_le_length (by omega)];rw[take_add,hmid,take_append_of_le_length (by rw[hn];omega)]
  have e2:cur.drop (j.toNat*n+off+vs.length)=(cells y0).drop (off+vs.length)++((l.flatMap cells).drop (j.toNat*n+n)++cur.drop (l.length*n)):=by
   conv=>lhs;rw[hcur]
   rw[drop_append_of_le_length (by omega),Nat.add_assoc,<-drop_drop,hmid,drop_append_of_le_length (by rw[hn];omega),qQ]
  rw[e1,e2,<-hset,<-hcs];simp[qQ]
 have hdrop:(cur0.take (o+(j.toNat*n+off))++vs++cur0.drop (o+(j.toNat*n+off)+vs.length)).drop o=cur.take (j.toNat*n+off)++vs++cur.drop (j.toNat*n+off+vs.length):=by
  have hlo:(cur0.take o).length=o:=by rw[length_take];omega
  rw[take_add,Nat.add_assoc,<-drop_drop,<-hcur0,qQ,qQ];conv=>lhs;arg 1;rw[<-hlo]
  rw[drop_left,qQ]
 have hsl:=a34 l j y1;refine .inr ⟨b,o,c,_,by rw[hv,hml,hsl],hB,hM',by omega,hcm,?_,?_⟩;.simp [size_toArray,qL,length_take,length_drop];omega
 .rw[hdrop,key,<-a0p hn,take_left]
end
def a7f(a b:A4):A3 A4:=if(a.size+b.size:Nat)<=9223372036854775807then some (a++b)else none
section
variable {P:Program} {η:Operand -> A5} {w:World} {d:A3 Tmp} {ty:TypeId} {ps:String} {af:Array Edge} {g:A3 (Nat×Bool)} {x y:Operand} {t t':TypeId} {a b c:A4} {q:Bool}
def g9p(hx:η x=.string a)(hy:η y=.string b)(h:(a.toList==b.toList)=q):YV P η w ⟨d,.binOp .eql t x y t',ty,ps,af,g⟩ (.bool q):=by simp_all[YV,execOp,eqGuard,binOp,Op.stringOp]
def g7f(hx:η x=.string a)(hy:η y=.string b)(h:(a.toList !=b.toList)=q):YV P η w ⟨d,.binOp .neq t x y t',ty,ps,af,g⟩ (.bool q):=by simp_all[YV,execOp,eqGuard,binOp,Op.stringOp,bne]
def g82(hx:η x=.string a)(hy:η y=.string b)(h:a7f a b=some c):YV P η w ⟨d,.binOp .add t x y t',ty,ps,af,g⟩ (.string c):=by
 unfold a7f at h;split at h
 .cases h;simp[YV,execOp,hx,hy,eqGuard,binOp,Op.stringOp];omega
 .cases h
end
section
variable {P:Program} {η:Operand -> A5} {w:World} {d:A3 Tmp} {ty:TypeId} {ps:String} {af:Array Edge} {g:A3 (Nat×Bool)} {x:Operand} {v:A5} {a:Addr} {i:Nat} {r:O (Nat×Operand)} {r':O (Nat×A5)}
def c5q(hx:η x=.pointer (some a)):YV P η w ⟨d,.nilCheck x,ty,ps,af,g⟩ (.pointer (some a)):=by simp[YV,execOp,hx]
end
def d0z(u v:A5)(n:Nat)(lo:Int)(len:Nat):Prop:=∃(a:A3 Addr)(L c:Nat)(a':A3 Addr)(c':Nat),v=.slice a L c/\0<=lo/\lo.toNat+len=L/\u=.slice a' len c'/\(0<len->∃b,a=some b/\a'=some (b.add (lo.toNat*n)))
def d0z.shape{u v:A5}{n:Nat}{lo:Int}{len:Nat}(h:d0z u v n lo len):∃a c,u=.slice a len c:=by cases h<;>grind
def c72{α:Type}(l:O α)(lo i:Int):A3 α:=if 0<=i then c7 l (lo+i)else none
def d0z.getF{α:Type}{B:Nat}{E:TypeId}{n:Nat}{cells:α->O A5}{hn:∀x,(cells x).length=n}{w:World}{u v:A5}{l:O α}{lo:Int}{len:Nat}(h:d0z u v n lo len)(hO:Own B E n cells w v l){i:Int}{x:α}(hx:c72 l lo i=some x):∃a cap,u=.slice (some a) len cap/\(0<=i/\i<(len:Int))/\At w (a.add (i.toNat*n)) (cells x):=by
 unfold c72 at hx;split at hx
 .rename_i h0;let⟨a,L,c,a',c',hv,hlo,hL,hu,hp⟩:=h;let⟨b,cap,hv2,hi2,hA⟩:=k9.getF (Own.rep (hn:=hn) hO (λ_ _ h=>h)) hx;rw[hv]at hv2;obtain⟨rfl,rfl,rfl⟩:=hv2;let⟨b',hb,ha'⟩:=hp (by omega);refine⟨b.add (lo.toNat*n),c',by simp_all,⟨h0,(by omega)⟩,?_⟩;rw[Deep.add_add,<-Nat.add_mul];have:(lo+i).toNat=lo.toNat+i.toNat:=by omega
  simp_all
 simp_all
section
variable {P:Program} {w:World} {G:Nat -> Prop} {ρ:Nat -> A5} {F:O Fact} {p:Plan} {i:Nat} {α:Type} {B:Nat} {E:TypeId} {n:Nat} {cells:α -> O A5} {v:A5} {l r:O α} {t:TypeId} {x lo hi:Operand} {a b:Int}
 {ty:TypeId} {ps:String} {af:Array Edge} {g:A3 (Nat×Bool)} {dd:Tmp} {Φ:A5 -> World -> Prop}
def c6c(hn:∀x,(cells x).length=n):∀(l:O α)(k:Nat),(l.flatMap cells).drop (k*n)=(l.drop k).flatMap cells|[],k=>by simp|y::l,0=>by simp|y::l,k+1=>by rw[flatMap_cons,drop_succ_cons,Nat.succ_mul,Nat.add_comm,<-drop_drop,<-hn y,drop_left,hn y,c6c hn l k]
end
def b5l{α:Type}(z:α)(l:O α)(lo:Int):O α:=l.take lo.toNat++List.replicate (l.length-lo.toNat) z
def d74{α:Type}{cells:α->O A5}{z:α}{zs:Array A5}(hz:zs.toList=cells z)(hp:0<zs.size)(m:Nat):(Builtin.zeroCells zs m).toList=(List.replicate m z).flatMap cells:=by
 have hl:(cells z).length=zs.size:=by grind
 apply ext_getElem?;intro k;have key:∀(m k:Nat),((List.replicate m z).flatMap cells)[k]?=if k<m*zs.size then some zs[k%zs.size]!else none:=by intro m;induction m with|zero=>simp_all|succ m ih=>
    intro k;rw[replicate_succ,flatMap_cons];by_cases hk:k<zs.size;.rw[getElem?_append_left (by omega),Nat.mod_eq_of_lt hk,if_pos (by grind),<-hz];simp[hk]
    .rw[getElem?_append_right (by omega),hl,ih];have e1:(k-zs.size)%zs.size=k%zs.size:=by rw[Nat.mod_eq_sub_mod (by omega:k>=zs.size)]
     rw[e1];congr 1;rw[Nat.succ_mul,eq_iff_iff];omega
 rw[key];unfold Builtin.zeroCells;split<;>simp_all
def e5y{P:Program}{w:World}{G:Nat->Prop}{ρ:Nat->A5}{F:O Fact}{p:Plan}{i:Nat}{α:Type}{B:Nat}{E:TypeId}{n:Nat}{cells:α->O A5}{v u zv:A5}{l:O α}{z:α}{t:TypeId}{x:Operand}{a:Int}{len:Nat}{ty:TypeId}{ps:String}{af:Array Edge}{g:A3 (Nat×Bool)}{dd:Nat}(hF:F[i]?=some (dd,λ_ w'=>Own B E n cells w' v (b5l z l a)))(hm:p.mu.contains i=true)(hG:∀b,v.ownBlock=some b->G b)(hn:∀x,(cells x).length=n)(h1:∀x,∀u∈cells x,u.oneCell'=true)(hn0:0<n)(hx:ev ρ x=u)(ht:P.underlying t=some (.slice E))(hz:∀w,(zeroValue E).run P w=.ok zv w)(hzc:zv.cells.toList=cells z)(hV:d0z u v n a len)(hO:Own B E n cells w v l):a0k P ⟨none,.call ⟨.builtin .clear,#[x],#[t]⟩,ty,ps,af,g⟩ (ev ρ) w λv w'=>Ext (if p.mu.contains i then G else noG) w w'/\fact F i (b20 ρ none v) w':=by
 let⟨ad,L,c,a',c',hv,hlo,hL,hu,hp⟩:=hV;have hLl:L=l.length:=by let⟨_,_,hv2,_,_⟩:=hO.shape;simp_all
 have hzs:0<zv.cells.size:=by
  have:zv.cells.toList.length=n:=by simp_all
  simp at this;omega
 by_cases hlen:len=0
 .have hcl:b5l z l a=l:=by unfold b5l;rw[show l.length-a.toNat=0 by omega,take_of_length_le (by omega)];simp
  have hrun:(execOp (ev ρ) ⟨none,.call ⟨.builtin .clear,#[x],#[t]⟩,ty,ps,af,g⟩).run P w=.ok (.value (.tuple #[])) w:=by subst hlen;cases a'<;>simp[execOp,resolve,invoke,builtin,hx,hu,Builtin.clear_,run_underlying ht]
  unfold a0k;rw[hrun];refine⟨Ext.refl _ _,?_⟩;unfold fact;rw[hF,hcl];omega
 .let⟨b',hb,ha'⟩:=hp (by omega);subst hb;subst ha';obtain⟨b,o,cur0,rfl,hob,hB,hM,hml,hmc,hcm,hcl0,htake⟩:=hO.mb hv;let⟨cur,hcur0⟩:∃cur,cur=cur0.drop o:=⟨_,rfl⟩;rw[<-hcur0]at htake;have hcl:c*n<=cur.length:=by rw[hcur0,length_drop];omega
  have hfl:=a0p hn l;have hvl:((List.replicate len z).flatMap cells).length=len*n:=by rw[a0p hn,length_replicate]
  have hsum:a.toNat*n+len*n=l.length*n:=by rw[<-Nat.add_mul];congr 1;omega
  have hle:a.toNat*n+((List.replicate len z).flatMap cells).length<=cur.length:=by rw[hvl,hsum];exact Nat.le_trans (Nat.mul_le_mul_right n (by omega)) hcl
  have hopos:o<=cur0.length/\o+cur.length=cur0.length:=by rw[hcur0,length_drop];omega
  let⟨w',hr,hM',hE⟩:=b4d (P:=P) ((List.replicate len z).flatMap cells) (o+a.toNat*n) cur0 w hM (by omega) (e1t h1);have hrun:(execOp (ev ρ) ⟨none,.call ⟨.builtin .clear,#[x],#[t]⟩,ty,ps,af,g⟩).run P w=.ok (.value (.tuple #[])) w':=by
   have h2:=b23 (P:=P) (w:=w) (a:=(⟨b,0,none⟩:Addr)) ((List.replicate len z).flatMap cells) (o+a.toNat*n) 0;have h3:(⟨b,o,none⟩:Addr).add (a.toNat*n)=(⟨b,0,none⟩:Addr).add (o+a.toNat*n):=by rw[Addr.add_lit,Addr.add_lit,Nat.zero_add]
   cases len with|zero=>omega|succ len=>simp[execOp,resolve,invoke,builtin,hx,hu,Builtin.clear_,run_underlying ht,hz,d74 hzc hzs,h3,h2,hr]
  unfold a0k;rw[hrun];refine⟨?_,?_⟩;.rw[hm];exact hE.mono (λc hc=>hG c (by rw[hc];omega))
  unfold fact;rw[hF];have hcur:cur=l.flatMap cells++cur.drop (l.length*n):=by rw[<-htake,take_append_drop]
  have hcll:(b5l z l a).length=l.length:=by unfold b5l;simp;omega
  have htl:∀(l:O α)(k:Nat),k<=l.length->(l.flatMap cells).take (k*n)=(l.take k).flatMap cells:=by intro l;induction l with|nil=>simp|cons y l ih=>intro k hk;cases k with|zero=>simp|succ k=>rw[take_succ_cons,flatMap_cons,flatMap_cons,Nat.succ_mul,Nat.add_comm,<-hn y,take_length_add_append,hn y,ih k (by simpa using hk)]
  have key:cur.take (a.toNat*n)++(List.replicate len z).flatMap cells++cur.drop (a.toNat*n+((List.replicate len z).flatMap cells).length)=(b5l z l a).flatMap cells++cur.drop (l.length*n):=by
   rw[hvl,hsum];have e1:cur.take (a.toNat*n)=(l.take a.toNat).flatMap cells:=by
    conv=>lhs;rw[hcur]
    rw[take_append_of_le_length (by omega),htl l _ (by omega)]
   have e2:l.length-a.toNat=len:=by omega
   rw[e1];unfold b5l;rw[flatMap_append,e2]
  have hdrop:(cur0.take (o+a.toNat*n)++(List.replicate len z).flatMap cells++cur0.drop (o+a.toNat*n+((List.replicate len z).flatMap cells).length)).drop o=cur.take (a.toNat*n)++(List.replicate len z).flatMap cells++cur.drop (a.toNat*n+((List.replicate len z).flatMap cells).length):=by
   have hlo:(cur0.take o).length=o:=by rw[length_take];omega
   rw[take_add,Nat.add_assoc,<-drop_drop,<-hcur0,qQ,qQ];conv=>lhs;arg 1;rw[<-hlo]
   rw[drop_left,qQ]
  refine .inr ⟨b,o,c,_,by rw[hv,hLl,hcll],hB,hM',by omega,hcm,?_,?_⟩;.simp [size_toArray,qL,length_take,length_drop];omega
  .rw[hdrop,key,<-a0p hn,take_left]
def d24{σ ρ:Type}(k:Nat)(f:(σ->A3 ρ)->σ->A3 ρ)(s:σ):d9 (k+1) f s=f (d9 k f) s:=rfl
def u8R:TyR Int:=TyR.flat 1 (λx=>[.int .u8 x]) (λ_=>rfl)
def k9.bytes{G:Nat->Prop}{w:World}{a:Addr}{n c:Nat}{l:O Int}(h:k9 u8R G w (.slice (some a) n c) l):n=l.length/\∀j x,l[j]?=some x->w.cell? (a.add j)=some (.int .u8 x):=by
 rcases h with⟨h1,_⟩|⟨a',cap,hv,_,_,hi⟩;.grind
 .cases hv;refine⟨rfl,λj x hx=>?_⟩;let ⟨cs,hr,_,_,hca⟩:=hi j x hx;subst hr;have:=hca 0 _ rfl;have e:(a.add (j*u8R.n)).add 0=a.add j:=by show(a.add (j*1)).add 0=a.add j;unfold Addr.add;simp
  rw[e]at this;omega
def c6i(l:O Int):A4:=⟨(Lib.bytesOf l).toArray⟩
def i8k {P:Program}{G:Nat -> Prop}{w:World}{v:Value}{l:List Int}(h:k9 u8R G w v l):(Extern.Bytes.bytesOf v).run P w= .ok (c6i l) w:=by
 have h':=h
 rcases h with ⟨rfl,rfl⟩ | ⟨a,cap,rfl,_⟩
 ·rfl
 ·obtain ⟨_,hc⟩:=h'.bytes
  have:=Lib.run_loadBytesX (P:=P) w l a .empty hc
  unfold Extern.Bytes.bytesOf
  rw [this]
  congr 1
  apply ByteArray.ext
  simp [c6i]
def j96 (a b:List Int):Int:=Lib.compareBytes (Lib.bytesOf a) (Lib.bytesOf b)
def j05 {P:Program}{w:World}{va vb:Value}{la lb:List Int}{G G':Nat -> Prop}(ha:k9 u8R G w va la)(hb:k9 u8R G' w vb lb):(Extern.BytealgCompare.compare #[va,vb]).run P w= .ok (.int .i64 (j96 la lb)) w:=by
 change Sem.run P (do pure (goInt (Extern.BytealgCompare.cmp (<- Extern.Bytes.bytesOf va) (<- Extern.Bytes.bytesOf vb)))) w=_
 simp only [Sem.run_bind,Sem.run_pure,i8k ha,i8k hb,Result.andThen]
 rw [Lib.cmp_eq];rfl
section
variable {P:Program} {η:Operand -> A5} {w:World} {d:A3 Tmp} {ty:TypeId} {ps:String} {af:Array Edge} {g:A3 (Nat×Bool)} {x y:Operand} {t t':TypeId} {a b c:A4} {q:Bool}
def g6a{v:A5}{l:O Int}{G:Nat->Prop}(h:k9 u8R G w v l):(Conv.bytesToString v).run P w=.ok (.string (c6i l)) w:=by
 have h':=h;rcases h with⟨rfl,rfl⟩|⟨a,cap,rfl,_⟩;.rfl
 .let ⟨_,hc⟩:=h'.bytes;rw[run_bytesToString w a _ cap l (by
   have hca:CA w a (l.map (Value.int .u8)):=by intro j v hj;rw[getElem?_map]at hj;obtain⟨x,hx,rfl⟩:=Option.map_eq_some_iff.1 hj;exact hc j x hx
   have:=b3v (P:=P) l.length 0 #[] (l.map _) (by simp) (λj v hj=>by rw[Nat.zero_add];exact hca j v hj);simpa[loadCells]using this)];have key:∀(l:O Int)(s:A4),l.foldl (λr n=>r.push (UInt8.ofNat n.toNat)) s=⟨s.data++(Lib.bytesOf l).toArray⟩:=by intro l;induction l with|nil=>simp[Lib.bytesOf]|cons n l ih=>intro s;rw[foldl_cons,ih];simp[Lib.bytesOf,ByteArray.push]
  rw[key];simp[c6i]
def h2g{S T:TypeId}{v:A5}{l:O Int}{G:Nat->Prop}(hx:η x=v)(hcv:∀(a:A3 Addr)(n c:Nat)(w:World),(convert S T (.slice a n c)).run P w=(Conv.bytesToString (.slice a n c)).run P w)(h:k9 u8R G w v l):YV P η w ⟨d,.convert S T x,ty,ps,af,g⟩ (.string (c6i l)):=by let ⟨a,c,hv,_,_⟩:=h.shape;have hr:=g6a (P:=P) h;rw[hv]at hr hx;simp[YV,execOp,hx,hcv,hr,Result.andThen]
end
def It(w:World)(b:Nat)(s:A4)(p:Int):Prop:=0<=p/\w.heap[b]?=some (.stringIter s p.toNat)
def f1z(s:A4)(p:Int):A3 Int:=if p<(s.size:Int)then(if(s.get! p.toNat).toNat<128then some ((s.get! p.toNat).toNat:Int)else none)else some 0
def e6m(s:A4)(p:Int):Int:=if p<(s.size:Int)then p+1 else p
def nxV(b:Bool)(p c:Int):A5:=if b=true then .tuple #[.bool true,.int .i64 p,.int .i32 c]else .tuple #[.bool false]
section
variable {P:Program} {ρ:Nat -> A5} {w:World} {G:Nat -> Prop} {F:O Fact} {p:Plan} {i:Nat} {η:Operand -> A5} {d:A3 Tmp} {ty:TypeId} {ps:String} {af:Array Edge} {g:A3 (Nat×Bool)} {x:Operand}
def e6q{t:TypeId}{s:A4}(hu:P.underlying t=some .string):(Instr.range t (.string s)).run P w=.ok (.pointer (some ⟨w.heap.size,0,none⟩)) (w.alloc (.stringIter s 0)):=by simp[Instr.range,run_underlying hu,Result.andThen]
def f2e{b:Nat}{s:A4}{q c:Int}(h:It w b s q)(hc:f1z s q=some c):∃w',(Instr.next (.pointer (some ⟨b,0,none⟩)) true ty).run P w=.ok (nxV (decide (q<(s.size:Int))) q c) w'/\Ext (λx=>x=b) w w'/\It w' b s (e6m s q):=by
 let ⟨h0,h1⟩:=h;unfold f1z at hc;have hget:(getObj b).run P w=.ok (.stringIter s q.toNat) w:=by simp[getObj,Sem.run,h1]
 by_cases hp:q<(s.size)
 .rw[if_pos hp]at hc;split at hc;case isFalse=>cases hc
  rename_i h128;obtain rfl:=qH hc;have hdec:Utf8.decode s q.toNat=((s.get! q.toNat).toNat,1):=by unfold Utf8.decode;simp[h128]
  have hset:(setObj b (.stringIter s (q.toNat+1))).run P w=.ok () ({w with heap:=w.heap.setIfInBounds b (.stringIter s (q.toNat+1))}):=by simp[setObj,Sem.run,h1]
  refine⟨{w with heap:=w.heap.setIfInBounds b (.stringIter s (q.toNat+1))},?_,?_,?_⟩
  .have hlt:q.toNat<s.size:=by omega
   have hq:((q.toNat))=q:=by omega
   simp[Instr.next,hget,hset,hlt,hdec,Result.andThen,nxV,hp,goInt,hq]
  .refine⟨rfl,rfl,rfl,?_,λb' hb' hg=>?_⟩;.simp
   .have:b'≠b:=λe=>hg e;simp[Array.getElem?_setIfInBounds,this.symm]
  .unfold e6m;rw[if_pos hp];refine⟨by omega,?_⟩;rw[show(q+1).toNat=q.toNat+1by omega];simp[Array.getElem?_setIfInBounds,((qN.1 h1).1)]
 .refine⟨w,?_,⟨rfl,rfl,rfl,Nat.le_refl _,λ_ _ _=>rfl⟩,?_⟩
  .have hlt:¬q.toNat<s.size:=by omega
   simp[Instr.next,hget,hlt,Result.andThen,nxV,hp]
  .unfold e6m;rw[if_neg hp];exact⟨h0,h1⟩
end
end Go.PL
namespace Go.SX
open Go Go.PL
inductive PE where|f(n:Nat)|i(n:Int)
inductive AV(C:Type)(T:C->Type)where|unk|undef|nils|nilp|bool(b:Bool)|int(k:IntKind)(n:Int)|str(s:ByteArray)|val(c:C)(x:T c)|list(c:C)(l:List (T c))|rp(a:AV C T)|ref(id:Nat)|fref(id:Nat)(c:C)(p:List PE)|clo(f:FuncId)(as:List (AV C T))|tup(as:List (AV C T))|st(c:C)(as:List (AV C T))|vw(id:Nat)(c:C)(lo:Int)(n:Nat)|bnd(f:FuncId)(a:AV C T)|km(g:FuncId)(t:TypeId)(l:List (Int×Int))|vl(g:FuncId)(t:TypeId)(c:C)(l:List (T c))|mi|va(id:Nat)(c:C)(p:List PE)(k:Nat)|ifc(t:TypeId)(a:AV C T)
inductive MC(C:Type)(T:C->Type)where|never|dead|box(t:TypeId)(a:AV C T)|sl(e:TypeId)(c:C)(l:List (T c))|fz(c:C)(l:List (T c))|it(s:ByteArray)(p:Int)|mp(l:List (Int×Int))
structure Uni where
 C:Type
 T:C->Type
 dec:DecidableEq C
 c0:C
 n:C->Nat
 ag:C->Bool
 lay:C->O (A3 C)flds:∀c,T c->O (AV C T)mkv:∀c,O (AV C T)->A3 (T c)cd:TypeId->A3 C
 flat:C->Bool
 isA:C->Bool
 ae:C->C
 an:C->Nat
 al:∀c,T c->O (T (ae c))ast:∀c,T c->Int->T (ae c)->T c
 gt:∀c,T c->Int->T (ae c)b8:C->Bool
 t8:∀c,T c->Int
 tab:World->Prop
 tb:Nat->Prop
section
variable {α:Type}
def lk(t:Nat):O (Nat×α)->A3 α|[]=>none|(k,a)::r=>bif Nat.beq k t then some a else lk t r
end
structure St(C:Type)(T:C->Type)where sl:O (Nat×AV C T)me:O (Nat×MC C T)nx:Nat
namespace St
variable {C:Type} {T:C -> Type}
def slot(σ:St C T)(t:Nat):AV C T:=match lk t σ.sl with|some a=>a|none=>.unk
def mem(σ:St C T)(id:Nat):MC C T:=match lk id σ.me with|some a=>a|none=>.never
def put(σ:St C T)(d:A3 Tmp)(a:AV C T):St C T:=match d with|some d=>⟨(d,a)::σ.sl,σ.me,σ.nx⟩|none=>σ
def app(σ:St C T)(d:A3 Tmp)(a:AV C T)(ws:O (Nat×MC C T)):St C T:=(⟨σ.sl,ws++σ.me,σ.nx⟩:St C T).put d a
end St
inductive Q(C:Type)(T:C->Type):Type 1where|rdT(t:Nat)(k:AV C T->Q C T)|rdM(id:Nat)(k:MC C T->Q C T)|opt{β:Type}(o:Option β)(k:β->Q C T)|cas{β:Type}(o:Option β)(n:Q C T)(k:β->Q C T)|done(v:AV C T)(ws:List (Nat×MC C T))|fail
abbrev optC{α β:Type}(o:A3 α)(n:A3 β)(f:α->A3 β):A3 β:=match o with|none=>n|some a=>f a
namespace Q
variable {C:Type} {T:C -> Type}
def eval{R:Type}(σ:St C T):Q C T->Nat->(Nat->AV C T->O (Nat×MC C T)->A3 R)->A3 R
 |.rdT t k,m,K=>match σ.slot t with|.unk=>none|a=>(k a).eval σ (m|||2^(2*t)) K
 |.rdM id k,m,K=>(k (σ.mem id)).eval σ (m|||2^(2*id+1)) K|.opt o k,m,K=>Option.bind o λb=>(k b).eval σ m K|.cas o n k,m,K=>optC o (n.eval σ m K) λb=>(k b).eval σ m K|.done v ws,m,K=>K m v ws|.fail,_,_=>none
def Ev(σ:St C T):Q C T->Nat->Nat->AV C T->O (Nat×MC C T)->Prop|.rdT t k,m0,m,v,ws=>σ.slot t≠.unk/\(k (σ.slot t)).Ev σ (m0|||2^(2*t)) m v ws|.rdM id k,m0,m,v,ws=>(k (σ.mem id)).Ev σ (m0|||2^(2*id+1)) m v ws|.opt o k,m0,m,v,ws=>∃b,o=some b/\(k b).Ev σ m0 m v ws|.cas o n k,m0,m,v,ws=>(o=none/\n.Ev σ m0 m v ws)\/∃b,o=some b/\(k b).Ev σ m0 m v ws|.done v' ws',m0,m,v,ws=>m=m0/\v=v'/\ws=ws'|.fail,_,_,_,_=>False
end Q
section
variable (P:Program) (U:Uni)
abbrev Uni.AV(U:Uni):=SX.AV U.C U.T
abbrev Uni.MC(U:Uni):=SX.MC U.C U.T
abbrev Uni.Q(U:Uni):=SX.Q U.C U.T
abbrev Uni.St(U:Uni):=SX.St U.C U.T
def cst{U:Uni}(c:U.C){c':U.C}(x:U.T c'):A3 (U.T c):=match U.dec c' c with|.isTrue h=>some (h▸x)|.isFalse _=>none
def b8i{U:Uni}(c:U.C){c':U.C}(x:O (U.T c')):A3 (O (U.T c)):=match U.dec c' c with|.isTrue h=>some (h▸x)|.isFalse _=>none
def asz{U:Uni}:U.AV->Nat|.val c _=>U.n c|.st c _=>U.n c|_=>1
def osz{U:Uni}:A3 U.C->Nat|some c=>U.n c|none=>1
def off{U:Uni}(c:U.C)(f:Nat):Nat:=(((U.lay c).take f).map osz).sum
def inj{U:Uni}(c:U.C)(x:U.T c):U.AV:=match U.ag c with|true=>.val c x|false=>match U.flds c x with|[a]=>a|_=>.unk
def prj{U:Uni}(c:U.C)(a:U.AV):A3 (U.T c):=match U.ag c with
 |true=>match a with|.val _ x=>cst c x|.st c' as=>(match U.mkv c' as with|some x=>cst c x|none=>none)|_=>none
 |false=>U.mkv c [a]
def c3p{U:Uni}:A5->A3 U.AV|.bool b=>some (.bool b)|.int k n=>some (.int k n)|.string s=>some (.str s)|.slice none 0 0=>some .nils|.pointer none=>some .nilp|_=>none
def rdO{U:Uni}(x:Operand)(k:U.AV->U.Q):U.Q:=match x with
 |.tmp t=>.rdT t k|.const v=>match c3p v with|some a=>k a|none=>.fail
 |.func f=>k (.clo f [])|.global _=>.fail
def g03{U:Uni}:O Operand->(O U.AV->U.Q)->U.Q|[],k=>k []|x::r,k=>rdO x λa=>g03 r λas=>k (a::as)
def szT(t:TypeId):Nat:=match P.info? t with|some i=>i.size|none=>0
def e54(t:TypeId)(n:Nat):Bool:=match P.info? t with|some i=>Nat.beq i.size n|none=>false
def d2w(t:TypeId):Nat:=match P.info? t with|some i=>i.bytes|none=>0
def g6u(t:TypeId)(b:Bool):Bool:=match P.underlying t with|some (.struct _)=>b|some (.array _ _)=>b|some _=>!b|none=>false
def b0p{U:Uni}:U.AV->Bool|.val _ _=>true|.st _ _=>true|_=>false
def a07{U:Uni}:U.AV->A3 U.C|.val c _=>some c|.st c _=>some c|_=>none
def d3q{U:Uni}:U.AV->Bool|.bool _|.int _ _|.str _|.val _ _|.list _ _=>true|_=>false
def c06{U:Uni}:U.AV->Bool|.bool _|.int _ _|.str _|.val _ _|.list _ _=>true|.rp a=>d3q a|.nilp=>true|_=>false
def h08{U:Uni}:U.AV->Bool|.bool _|.int _ _|.str _=>true|.val c _=>U.flat c|_=>false
def eqC{U:Uni}(c c':U.C):Bool:=match U.dec c c' with|.isTrue _=>true|.isFalse _=>false
def a03{U:Uni}:U.AV->Bool|.bool _|.int _ _|.str _|.val _ _|.list _ _|.nils|.ref _|.rp _|.nilp=>true|_=>false
def b3a{U:Uni}:U.AV->Bool|.st _ as=>as.all a03|a=>a03 a
def d3t{U:Uni}(a b:U.AV):Bool:=match a07 a,a07 b with|none,none=>true|some c,some c'=>eqC c c'|_,_=>false
def d4a{U:Uni}(a:U.AV):U.AV:=match a with|.st c as=>(match U.mkv c as with|some x=>.val c x|none=>.st c as)|a=>a
def h2e{U:Uni}:U.AV->Bool|.nils=>true|_=>false
def h1n{U:Uni}(c:U.C)(as:O U.AV):A3 U.AV:=match U.mkv c as with|some x=>(match as.any h2e with|true=>some (.st c as)|false=>some (.val c x))|none=>none
def f7q{U:Uni}:U.AV->A3 (U.C×O U.AV)|.val c x=>some (c,U.flds c x)|.st c as=>some (c,as)|_=>none
def c1d{U:Uni}:U.AV->Bool|.clo _ _|.tup _|.vw _ _ _ _|.bnd _ _|.km _ _ _|.vl _ _ _ _|.va _ _ _ _|.ifc _ _=>false|_=>true
def b33{U:Uni}(t:TypeId)(a:U.AV):Bool:=b3a a&&g6u P t (b0p a)&&e54 P t (asz a)
def f6u{U:Uni}(g:TypeId->O A5->A3 U.AV):O Field->O A5->A3 (O U.AV)|[],[]=>some []|[],_::_=>none|f::fs,cs=>match g f.type (cs.take (szT P f.type))with|some a=>(match f6u g fs (cs.drop (szT P f.type))with|some as=>some (d4a a::as)|none=>none)|none=>none
def f8c{U:Uni}(g:TypeId->O A5->A3 U.AV):Nat->TypeId->O A5->A3 (O U.AV)|0,_,[]=>some []|0,_,_::_=>none|m+1,e,cs=>match g e (cs.take (szT P e))with|some a=>(match f8c g m e (cs.drop (szT P e))with|some as=>some (d4a a::as)|none=>none)|none=>none
def f0g{U:Uni}:Nat->TypeId->O A5->A3 U.AV|0,_,_=>none|n+1,t,cs=>match P.underlying t with|some (.struct fs)=>(match U.cd t with|some c=>(match f6u P (f0g n) fs.toList cs with|some as=>(match U.ag c with|true=>h1n c as|false=>none)|none=>none)|none=>none)|some (.array m e)=>(match U.cd t with|some c=>(match f8c P (f0g n) m e cs with|some as=>(match U.ag c,U.mkv c as with|true,some x=>some (.val c x)|_,_=>none)|none=>none)|none=>none)|_=>(match cs with|[v]=>c3p v|_=>none)
def b7m{U:Uni}(t:TypeId):A3 U.AV:=match P.info? t with
 |some i=>match i.zero with|some z=>f0g P 100 t z.cells.toList|none=>none
 |none=>none
def binI{U:Uni}(op:BinOp)(k:IntKind)(a b:Int):U.Q:=match op with|.add=>.done (.int k (k.wrap (a+b))) []|.sub=>.done (.int k (k.wrap (a-b))) []|.mul=>.done (.int k (k.wrap (a*b))) []|.quo=>.opt (if b=0then none else some (k.wrap (a.tdiv b))) λc=>.done (.int k c) []|.rem=>.opt (if b=0then none else some (a.tmod b)) λc=>.done (.int k c) []|.and=>.done (.int k (d5y k a b)) []|.or=>.done (.int k (orK k a b)) []|.xor=>.done (.int k (h2r k a b)) []|.lss=>.done (.bool (decide (a<b))) []|.leq=>.done (.bool (decide (a<=b))) []|.gtr=>.done (.bool (decide (b<a))) []|.geq=>.done (.bool (decide (b<=a))) []|.eql=>.done (.bool (a==b)) []|.neq=>.done (.bool (a !=b)) []|_=>.fail
def eqK(k k':IntKind):Bool:=match decEq k k' with|.isTrue _=>true|.isFalse _=>false
def h2n{U:Uni}(op:BinOp)(t:TypeId)(x y:U.AV):U.Q:=match x,y with
 |.int k a,.int k' b=>match op with|.shl=>.opt (g2a k a b) λc=>.done (.int k c) []|.shr=>.opt (d0l k a b) λc=>.done (.int k c) []|_=>match eqK k k' with|true=>binI op k a b|false=>.fail
 |.str a,.str b=>match op with|.add=>.opt (a7f a b) λc=>.done (.str c) []|.eql=>.done (.bool (a.toList==b.toList)) []|.neq=>.done (.bool (a.toList !=b.toList)) []|.lss=>.done (.bool (Op.bytesLess a.toList b.toList)) []|_=>.fail
 |.bool p,.bool r=>match P.underlying t with
   |some .bool=>match op with|.eql=>.done (.bool (p==r)) []|.neq=>.done (.bool (p !=r)) []|_=>.fail
   |_=>.fail
 |_,_=>.fail
def h1i{U:Uni}(g:TypeId->U.AV->U.AV->A3 Bool):Nat->O Field->O U.AV->O U.AV->A3 Bool
 |_,[],[],[]=>some true|o,f::fs,a::as,b::bs=>match(f.name != "_")&&(Nat.beq f.offset o&&(b33 P f.type a&&(b33 P f.type b&&(a03 a&&(a03 b&&Nat.beq (asz a) (asz b))))))with|true=>(match g f.type a b with|some r=>(match h1i g (o+asz a) fs as bs with|some q=>some (r&&q)|none=>none)|none=>none)|false=>none
 |_,_,_,_=>none
def eqA{U:Uni}:Nat->TypeId->U.AV->U.AV->A3 Bool|0,_,_,_=>none|n+1,t,a,b=>match a,b with|.int k x,.int k' y=>(match P.underlying t,eqK k k' with|some (.int _),true=>some (x==y)|_,_=>none)|.bool p,.bool q=>(match P.underlying t with|some .bool=>some (p==q)|_=>none)|.str p,.str q=>(match P.underlying t with|some .string=>some (p.toList==q.toList)|_=>none)|a,b=>(match f7q a,f7q b with|some (_,as),some (_,bs)=>(match P.underlying t,P.stoodInHeld t with|some (.struct fs),false=>h1i P (eqA n) 0 fs.toList as bs|_,_=>none)|_,_=>none)
def h3e{U:Uni}(op:BinOp)(t:TypeId)(a b:U.AV):U.Q:=match P.eqGuardType P.depth t,eqA P 100 t a b with|false,some r=>(match op with|.eql=>.done (.bool r) []|.neq=>.done (.bool (!r)) []|_=>.fail)|_,_=>.fail
def unQ{U:Uni}(op:UnOp)(x:U.AV):U.Q:=match op,x with|.not,.bool p=>.done (.bool (!p)) []|.neg,.int k a=>.done (.int k (k.wrap (-a))) []|_,_=>.fail
def g2y{U:Uni}(s t:TypeId)(x:U.AV):U.Q:=match P.underlying s,P.underlying t,x with|some (.int _),some (.int k),.int _ n=>.done (.int k (k.wrap n)) []|some .string,some .string,.str b=>.done (.str b) []|_,_,_=>.fail
def b88{U:Uni}:(k:Nat)->O Field->O U.AV->O U.AV×O (Nat×U.MC)
 |k,f::fs,.nils::as=>match P.underlying f.type with|some (.slice e)=>(match U.cd e with|some c=>(.ref k::(b88 (k+1) fs as).1,(k,.sl e c [])::(b88 (k+1) fs as).2)|none=>(.nils::(b88 k fs as).1,(b88 k fs as).2))|_=>(.nils::(b88 k fs as).1,(b88 k fs as).2)
 |k,_::fs,a::as=>(a::(b88 k fs as).1,(b88 k fs as).2)|_,_,as=>(as,[])
def g6x{U:Uni}:O Nat->U.Q->U.Q|[],q=>q|i::is,q=>.rdM i λ|.never=>g6x is q|_=>.fail
def g8o{U:Uni}(fr:Nat)(t:TypeId)(a:U.AV):U.AV×O (Nat×U.MC):=match a with|.st c as=>(match P.underlying t with|some (.struct fs)=>(match b88 P (fr+1) fs.toList as with|(as',ms)=>(.st c as',ms))|_=>(.st c as,[]))|a=>(a,[])
def c78{U:Uni}(fr:Nat)(t:TypeId)(id:Nat)(a v:U.AV)(ws:O (Nat×U.MC)):U.Q:=match g8o P fr t a with|(_,[])=>.done v ws|(a',m::ms)=>g6x ((m::ms).map (·.1)) (.done v ((id,.box t a')::((m::ms)++ws)))
def g7b{U:Uni}(fr:Nat)(t:TypeId)(a:U.AV):U.Q:=.rdM fr λ|.never=>c78 P fr t fr a (.ref fr) [(fr,.box t a)]|_=>.fail
def nav{U:Uni}:U.AV->O PE->A3 U.AV
 |a,[]=>some a|.val c x,.f n::p=>match(U.flds c x)[n]?with|some b=>nav b p|none=>none
 |.st c as,.f n::p=>match as[n]?with|some b=>nav b p|none=>none
 |.val c x,.i n::p=>match U.isA c with|true=>nav (inj (U.ae c) (U.gt c x n)) p|false=>none
 |_,_=>none
def d0o{U:Uni}(b:U.AV):U.AV->O PE->A3 U.AV
 |_,[]=>some b|.val c x,.f n::p=>match(U.flds c x)[n]?with
   |some a=>match d0o b a p with
     |some a'=>match Nat.beq (asz a) (asz a')&&(b0p a==b0p a')with|true=>(U.mkv c ((U.flds c x).set n a')).map λy=>.val c y|false=>none
     |none=>none
   |none=>none
 |.st c as,.f n::p=>match as[n]?with
   |some a=>match d0o b a p with
     |some a'=>match d3t a a'&&a03 a' with|true=>some (.st c (as.set n a'))|false=>none
     |none=>none
   |none=>none
 |.val c x,.i n::p=>match U.isA c with
   |true=>match d0o b (inj (U.ae c) (U.gt c x n)) p with
     |some a'=>match prj (U.ae c) a' with|some y=>some (.val c (U.ast c x n y))|none=>none
     |none=>none
   |false=>none
 |_,_=>none
def g1o{U:Uni}(m:U.MC)(p:O PE)(k:U.AV->U.Q):U.Q:=match m,p with
 |.box _ (.val ca x),.i n::p=>match U.isA ca with
   |true=>.opt (c7 (U.al ca x) n) λy=>match nav (inj (U.ae ca) y) p with|some b=>k b|none=>.fail
   |false=>.fail
 |.box _ a,p=>match nav a p with|some b=>k b|none=>.fail
 |.sl _ c l,.i n::p=>.opt (c7 l n) λy=>match nav (inj c y) p with|some b=>k b|none=>.fail
 |_,_=>.fail
def d92{U:Uni}(m:U.MC)(p:O PE)(b:U.AV)(k:U.MC->U.Q):U.Q:=match m,p with
 |.box t (.val ca x),.i n::p=>match U.isA ca with
   |true=>.opt (c7 (U.al ca x) n) λy=>match d0o b (inj (U.ae ca) y) p with
     |some a'=>match prj (U.ae ca) a' with|some y'=>k (.box t (.val ca (U.ast ca x n y')))|none=>.fail
     |none=>.fail
   |false=>.fail
 |.box t a,p=>match d0o b a p with
   |some a'=>match Nat.beq (asz a) (asz a')&&(b0p a==b0p a')&&b3a a with|true=>k (.box t a')|false=>.fail
   |none=>.fail
 |.sl e c l,.i n::p=>.opt (c7 l n) λy=>match d0o b (inj c y) p with
   |some a'=>match prj c a' with|some y'=>k (.sl e c (a8h l n y'))|none=>.fail
   |none=>.fail
 |_,_=>.fail
def g59{U:Uni}(c:U.C)(m:U.MC):Bool:=match m with|.box _ (.val c' _)=>eqC c c'|.box _ (.st c' _)=>eqC c c'|.sl _ c' _=>eqC c c'|_=>false
def d93{U:Uni}:O U.AV->(O U.AV->O (Nat×U.MC)->U.Q)->U.Q
 |[],k=>k [] []|.ref id::r,k=>.rdM id λm=>match m with|.sl _ c l=>d93 r λas ws=>k (.list c l::as) ((id,.fz c l)::ws)|.fz c l=>d93 r λas ws=>k (.list c l::as) ws|_=>.fail
 |a::r,k=>d93 r λas ws=>k (d4a a::as) ws
def c18{U:Uni}(c:U.C)(m:U.MC)(p:O PE):Bool:=match m,p with|.box _ (.val ca _),.i _::_=>U.isA ca&&eqC c (U.ae ca)|m,_=>g59 c m
def g8f{U:Uni}(t:TypeId)(x:U.AV):U.Q:=match x with
 |.ref id=>.rdM id λm=>g1o m [] λb=>match b with
   |.st c fs=>d93 fs λas ws=>match U.mkv c as with|some x=>(match b33 P t (.val c x:U.AV)with|true=>.done (.val c x) ws|false=>.fail)|none=>.fail
   |b=>match b33 P t b with|true=>.done b []|false=>.fail
 |.fref id c p=>.rdM id λm=>match c18 c m p with
   |true=>g1o m p λb=>match b33 P t b with|true=>.done b []|false=>.fail
   |false=>.fail
 |.rp b=>match b33 P t b with|true=>.done b []|false=>.fail
 |_=>.fail
def e9z{U:Uni}(t:TypeId)(x:U.AV):U.Q:=match x with
 |.ref id=>.rdM id λm=>match m with|.box _ (.st c fs)=>(match b33 P t (.st c fs:U.AV)with|true=>.done (.st c fs) []|false=>.fail)|_=>.fail
 |_=>.fail
def c0t{U:Uni}(id:Nat)(x:U.AV):Bool:=match x with|.ref id'=>Nat.beq id id'|_=>false
def g8q{U:Uni}(m:U.MC)(p:O PE)(y:U.AV):Bool:=match m,p,y with|.box _ (.st _ _),[.f _],.ref _=>true|_,_,_=>false
def e7c{U:Uni}(fr:Nat)(t:TypeId)(x y:U.AV):U.Q:=match b33 P t y with
 |true=>match x with
   |.ref id=>.rdM id λm=>d92 m [] y λm'=>match m' with|.box t' a=>c78 P fr t' id a .undef [(id,.box t' a)]|_=>.fail
   |.fref id c p=>.rdM id λm=>match c18 c m p with
     |true=>match g8q m p y with|true=>d92 m p y λm'=>.done .undef [(id,m')]|false=>match c0t id y with|true=>.fail|false=>d93 [y] λas ws=>match as with|[y']=>(match b33 P t y' with|true=>d92 m p y' λm'=>.done .undef ((id,m')::ws)|false=>.fail)|_=>.fail
     |false=>.fail
   |_=>.fail
 |false=>.fail
def e11{U:Uni}(fr:Nat)(t:TypeId)(x y:U.AV):U.Q:=match b33 P t y,x with
 |true,.fref id c [.f n]=>.rdM id λm=>match m with
   |.box t' (.val c' z)=>(match eqC c c'&&!(c0t id y)with
     |true=>d92 (.box t' (.st c' (U.flds c' z))) [.f n] y λm'=>match m' with|.box t1 a=>c78 P fr t1 id a .undef [(id,.box t1 a)]|_=>.fail
     |false=>.fail)|.box t' (.st c' fs)=>(match eqC c c'&&!(c0t id y)with
     |true=>d92 (.box t' (.st c' fs)) [.f n] y λm'=>match m' with|.box t1 a=>c78 P fr t1 id a .undef [(id,.box t1 a)]|_=>.fail
     |false=>.fail)|_=>.fail
 |_,_=>.fail
def f9n{U:Uni}(c:U.C):Bool:=match U.lay c with|[none]=>true|_=>false
def e1i{U:Uni}(fr:Nat)(t:TypeId):U.Q:=match P.underlying t,U.cd t,(b7m P t:A3 U.AV)with
 |some (.slice e),some cl,some .nils=>(match U.cd e,f9n cl with
   |some c,true=>.rdM fr λ
     |.never=>.rdM (fr+1) λ|.never=>.done (.ref fr) [(fr,.box t (.st cl [.ref (fr+1)])),(fr+1,.sl e c [])]|_=>.fail
     |_=>.fail
   |_,_=>.fail)|_,_,_=>.fail
def g39{U:Uni}(fr:Nat)(t:TypeId)(x:U.AV):U.Q:=match x,U.cd t with
 |.ref k,some cl=>(match b33 P t (.ref k:U.AV)&&f9n cl with
   |true=>.rdM fr λ|.never=>.done (.ref fr) [(fr,.box t (.st cl [.ref k]))]|_=>.fail
   |false=>.fail)|_,_=>.fail
def f1l{U:Uni}(t:TypeId)(x:U.AV):U.Q:=match x with
 |.ref id=>.rdM id λm=>match m with|.box _ (.st _ [.ref j])=>(match b33 P t (.ref j:U.AV)with|true=>.done (.ref j) []|false=>.fail)|_=>.fail
 |_=>.fail
def e0a{U:Uni}(t:TypeId)(x y:U.AV):U.Q:=match x,y with
 |.ref id,.ref k=>.rdM id λm=>match m with|.box t' (.st c [.ref _])=>(match b33 P t (.ref k:U.AV)&&f9n c with|true=>.done .undef [(id,.box t' (.st c [.ref k]))]|false=>.fail)|_=>.fail
 |_,_=>.fail
def d96{U:Uni}(t:TypeId)(x y:U.AV):U.Q:=match x,y with
 |.ref id,.ref k=>.rdM k λm=>match m with
   |.box _ a=>(match d3q a&&!(Nat.beq id k)&&b33 P t (.rp a:U.AV)with
     |true=>.rdM id λm=>match m with|.box t' b0=>(match Nat.beq (asz b0) 1&&(b0p b0==false)&&b3a b0 with|true=>.done .undef [(id,.box t' (.rp a)),(k,.dead)]|false=>.fail)|_=>.fail
     |false=>.fail)|_=>.fail
 |_,_=>.fail
def g6l(t:TypeId):Bool:=match P.info? t with|some i=>!(Nat.beq i.size 0)|none=>false
def e7u{U:Uni}(s:TypeId)(f:Nat)(x:U.AV):U.Q:=match P.underlying s with
 |some (.struct fs)=>match fs[f]?with
   |some fl=>match x with
     |.rp (.val c y)=>match Nat.beq (off c f) fl.offset&&g6l P fl.type,(U.flds c y)[f]?with|true,some b=>.done (.rp b) []|_,_=>.fail
     |.ref id=>.rdM id λm=>match m with
       |.box _ a=>match a07 a with
         |some c=>match Nat.beq (off c f) fl.offset&&g6l P fl.type&&decide (f<(U.lay c).length)with|true=>.done (.fref id c [.f f]) []|false=>.fail
         |none=>.fail
       |_=>.fail
     |_=>.fail
   |none=>.fail
 |_=>.fail
def c34{U:Uni}:U.C->O PE->A3 U.C
 |c,[]=>some c|c,.f n::p=>match(U.lay c)[n]?with|some (some c')=>c34 c' p|_=>none
 |c,.i _::p=>match U.isA c with|true=>c34 (U.ae c) p|false=>none
def e0q{U:Uni}(s:TypeId)(f id:Nat)(c:U.C)(p:O PE):U.Q:=match P.underlying s with
 |some (.struct fs)=>match fs[f]?with
   |some fl=>match(match p with|.i _::q=>c34 c q|_=>c34 c p)with
     |some c'=>match Nat.beq (off c' f) fl.offset&&g6l P fl.type&&decide (f<(U.lay c').length)with|true=>.done (.fref id c (p++[.f f])) []|false=>.fail
     |none=>.fail
   |none=>.fail
 |_=>.fail
def g4d{U:Uni}(s:TypeId)(f:Nat)(x:U.AV):U.Q:=match P.underlying s with
 |some (.struct fs)=>match fs[f]?with
   |some fl=>match x with
     |.val c y=>match(U.flds c y)[f]?with
       |some b=>match Nat.beq (off c f) fl.offset&&b33 P fl.type b with|true=>.done b []|false=>.fail
       |none=>.fail
     |.st c as=>match as[f]?with
       |some b=>match Nat.beq (off c f) fl.offset&&b33 P fl.type b&&a03 b with|true=>.done b []|false=>.fail
       |none=>.fail
     |_=>.fail
   |none=>.fail
 |_=>.fail
def b2o{U:Uni}(t:TypeId)(c:U.C):Bool:=match P.underlying t with|some (.slice e)=>e54 P e (U.n c)&&g6u P e (U.ag c)&&decide (0<U.n c)|_=>false
def d14{U:Uni}(t:TypeId)(ca:U.C):Bool:=match P.underlying t with|some (.array n e)=>U.isA ca&&Nat.beq n (U.an ca)&&e54 P e (U.n (U.ae ca))|_=>false
def d0n(k:Nat)(n:Int):A3 Unit:=if 0<=n/\n<(k:Int)then some ()else none
def c68{U:Uni}(t:TypeId)(x y:U.AV):U.Q:=match y with
 |.int .i64 n=>match x with
   |.list c l=>match b2o P t c with|true=>.opt (c7 l n) λz=>.done (.rp (inj c z)) []|false=>.fail
   |.ref id=>.rdM id λm=>match m with
     |.sl _ c l=>match b2o P t c with|true=>.opt (c7 l n) λ_=>.done (.fref id c [.i n]) []|false=>.fail
     |.fz c l=>match b2o P t c with|true=>.opt (c7 l n) λz=>.done (.rp (inj c z)) []|false=>.fail
     |.box _ (.val ca x)=>match d14 P t ca with|true=>.opt (c7 (U.al ca x) n) λ_=>.done (.fref id (U.ae ca) [.i n]) []|false=>.fail
     |_=>.fail
   |.vw id c lo k=>.rdM id λm=>match m with
     |.sl _ c' l=>match b2o P t c&&eqC c' c with|true=>.opt (c72 l lo n) λ_=>.done (.fref id c [.i (lo+n)]) []|false=>.fail
     |_=>.fail
   |.rp (.val ca x)=>match d14 P t ca with|true=>.opt (c7 (U.al ca x) n) λy=>.done (.rp (inj (U.ae ca) y)) []|false=>.fail
   |.fref id c p=>match(match p with|[]=>none|.i _::q=>c34 c q|.f k::q=>c34 c (.f k::q))with
     |some ca=>match d14 P t ca with|true=>.opt (d0n (U.an ca) n) λ_=>.done (.fref id c (p++[.i n])) []|false=>.fail
     |none=>.fail
   |_=>.fail
 |_=>.fail
def e7e{U:Uni}(t:TypeId)(x y:U.AV):U.Q:=match P.underlying t,x,y with
 |some .string,.str s,.int _ n=>.opt (b3c s n) λc=>.done (.int .u8 c) []|some (.array m e),.val ca x,.int .i64 n=>match U.isA ca&&Nat.beq m (U.an ca)&&e54 P e (U.n (U.ae ca))with
   |true=>.opt (c7 (U.al ca x) n) λz=>match b33 P e (inj (U.ae ca) z)with|true=>.done (inj (U.ae ca) z) []|false=>.fail
   |false=>.fail
 |_,_,_=>.fail
def g6q{U:Uni}:O U.AV->O Nat->O U.AV->A3 (O U.AV)
 |fs,[],_=>some fs|fs,i::is,a::as=>match fs[i]?with
   |some b=>match Nat.beq (asz a) (asz b)&&(b0p a==b0p b)with|true=>g6q (fs.set i a) is as|false=>none
   |none=>none
 |_,_,[]=>none
def d4d{U:Uni}(c:U.C)(fs:O Field):Bool:=Nat.beq fs.length (U.lay c).length&&(List.range fs.length).all λi=>match fs[i]?,(U.lay c)[i]?with|some f,some o=>Nat.beq f.offset (off c i)&&e54 P f.type (osz o)|_,_=>false
def f0r{U:Uni}(t:TypeId)(is:O Nat)(as:O U.AV):U.Q:=match P.underlying t,U.cd t,b7m P t with
 |some (.struct fs),some c,some z=>match f7q z with
   |some (c',zs)=>match d4d P c' fs.toList with
     |true=>d93 as λas ws=>match as.all a03,g6q zs is as with
       |true,some gs=>match h1n c' gs with|some y=>.done y ws|none=>.fail
       |_,_=>.fail
     |false=>.fail
   |none=>.fail
 |_,_,_=>.fail
def g8y(t:TypeId):Bool:=match P.underlying t with|some (.array _ _)=>true|_=>false
def d9k{U:Uni}(t:TypeId)(is:O Nat)(as:O U.AV):U.Q:=match b7m P t with
 |some (.val c z)=>match d14 P t c with
   |true=>d93 as λas ws=>match as.all a03,g6q (U.flds c z) is as with
     |true,some gs=>match U.mkv c gs with|some y=>.done (.val c y) ws|none=>.fail
     |_,_=>.fail
   |false=>.fail
 |_=>.fail
def h1u{U:Uni}(c:U.C):O U.AV->A3 (O (U.T c))|[]=>some []|a::r=>match prj c a with
   |some x=>match h1u c r with|some l=>some (x::l)|none=>none
   |none=>none
def d48:Nat->O Nat->Bool|_,[]=>true|k,i::r=>Nat.beq i k&&d48 (k+1) r
def d81(e n:Nat):Bool:=match P.info? e with|some i=>(match i.zero with|some z=>Nat.beq z.cells.size n&&Nat.beq i.size n&&decide (0<n)&&decide (0<i.bytes)|none=>false)|none=>false
def c3r{U:Uni}(fr:Nat)(t:TypeId)(len:Nat)(is:O Nat)(as:O U.AV):U.Q:=match P.underlying t with
 |some (.slice e)=>match U.cd e with
   |some c=>match d48 0 is&&Nat.beq is.length len&&Nat.beq as.length len&&b2o P t c&&Nat.ble (len*U.n c) 16777216&&Nat.ble len 1000000&&d81 P e (U.n c)with
     |true=>d93 as λas ws=>match as.all b3a,h1u c as with
       |true,some l=>.rdM fr λ|.never=>.done (.ref fr) ((fr,.sl e c l)::ws)|_=>.fail
       |_,_=>.fail
     |false=>.fail
   |none=>.fail
 |_=>.fail
def rdL{U:Uni}(c:U.C)(x:U.AV)(k:O (U.T c)->U.Q):U.Q:=match x with
 |.list _ l=>match b8i c l with|some l=>k l|none=>.fail
 |.nils=>k []|.ref id=>.rdM id λm=>match m with
   |.sl _ _ l=>match b8i c l with|some l=>k l|none=>.fail
   |.fz _ l=>match b8i c l with|some l=>k l|none=>.fail
   |_=>.fail
 |.va id c' p n=>.rdM id λm=>match c18 c' m p with
   |true=>g1o m p λb=>match b with|.val ca z=>(match U.isA ca&&Nat.beq n (U.an ca)&&Nat.ble n 1000000&&Nat.blt 0 (U.n c),b8i c (U.al ca z)with|true,some l=>k l|_,_=>.fail)|_=>.fail
   |false=>.fail
 |_=>.fail
def g38(s t:TypeId):Bool:=match P.underlying s,P.underlying t with|some (.slice _),some .string=>true|_,_=>false
def h2h{U:Uni}(s:TypeId)(x:U.AV):U.Q:=match P.underlying s with
 |some (.slice e)=>match P.underlying e,U.cd e with|some (.int .u8),some c=>(match U.b8 c with|true=>rdL c x λl=>.done (.str (c6i (l.map (U.t8 c)))) []|false=>.fail)|_,_=>.fail
 |_=>.fail
def f5z(t:TypeId):Bool:=match P.underlying t with|some .string=>true|_=>false
def e6l(s:A4)(p:Int):A3 (A3 Int):=if p<(s.size:Int)then some (if(s.get! p.toNat).toNat<128then some ((s.get! p.toNat).toNat:Int)else none)else none
def f9p(t:TypeId):Bool:=match P.underlying t with|some (.map _ _)=>true|_=>false
def e9h{U:Uni}(fr:Nat)(t:TypeId)(x:U.AV):U.Q:=match x with
 |.str s=>match f5z P t with
   |true=>.rdM fr λ|.never=>.done (.ref fr) [(fr,.it s 0)]|_=>.fail
   |false=>.fail
 |.ref id=>match f9p P t with
   |true=>.rdM id λ|.mp []=>.done .mi [(id,.dead)]|_=>.fail
   |false=>.fail
 |_=>.fail
def f0b{U:Uni}(x:U.AV):U.Q:=match x with|.mi=>.done (.tup [.bool false]) []|_=>.fail
def g5i{U:Uni}(x:U.AV):U.Q:=match x with
 |.ref id=>.rdM id λ|.it s p=>.cas (e6l s p) (.done (.tup [.bool false]) [(id,.it s p)]) λr=>.opt r λc=>.done (.tup [.bool true,.int .i64 p,.int .i32 c]) [(id,.it s (p+1))]|_=>.fail
 |_=>.fail
def g1d{U:Uni}:U.AV->A3 Int|.int .i64 n=>some n|_=>none
def g66(t:TypeId):Bool:=match P.underlying t with|some (.slice _)=>true|_=>false
def h3u{U:Uni}(t:TypeId)(x:U.AV):U.Q:=match x with
 |.list _ l=>match g66 P t with|true=>.done (.int .i64 (l.length:Int)) []|false=>.fail
 |.nils=>match g66 P t with|true=>.done (.int .i64 0) []|false=>.fail
 |.str s=>match f5z P t with|true=>.done (.int .i64 (s.size:Int)) []|false=>.fail
 |.vw _ _ _ n=>match g66 P t with|true=>.done (.int .i64 (n:Int)) []|false=>.fail
 |.ref id=>match g66 P t with
   |true=>.rdM id λm=>match m with|.sl _ _ l=>.done (.int .i64 (l.length:Int)) []|.fz _ l=>.done (.int .i64 (l.length:Int)) []|_=>.fail
   |false=>.fail
 |_=>.fail
def h1q{U:Uni}(fr:Nat)(e:TypeId)(c:U.C)(k:O (Nat×U.MC))(l:O (U.T c))(x:U.AV):U.Q:=rdL c x λxs=>.opt (a4n (d2w P e) l xs) λr=>.rdM fr λ|.never=>.done (.ref fr) ((fr,.sl e c r)::k)|_=>.fail
def h35{U:Uni}(fr:Nat)(t:TypeId)(s x:U.AV):U.Q:=match P.underlying t with
 |some (.slice e)=>match U.cd e with
   |some c=>match d81 P e (U.n c)with
     |true=>match s with
       |.nils=>h1q P fr e c [] [] x|.ref id=>match c0t id x with|true=>.fail|false=>.rdM id λm=>match m with
           |.sl e' c' l=>match Nat.beq e e'&&eqC c' c,b8i c l with|true,some l=>h1q P fr e c [(id,.dead)] l x|_,_=>.fail
           |_=>.fail
       |_=>.fail
     |false=>.fail
   |none=>.fail
 |_=>.fail
def c3u(s:A4)(a b:Int):A3 A4:=if 0<=a/\a<=b/\b<=(s.size:Int)then some (s.extract a.toNat b.toNat)else none
def bnd{U:Uni}(x:A3 Operand)(d:Int)(k:Int->U.Q):U.Q:=match x with|none=>k d|some o=>rdO o λa=>match g1d a with|some n=>k n|none=>.fail
def arrQ{U:Uni}(t:TypeId)(id:Nat)(c:U.C)(p:O PE)(lo hi:A3 Operand):U.Q:=match lo,hi with
 |none,none=>match(match p with|[]=>none|.i _::q=>c34 c q|.f k::q=>c34 c (.f k::q))with
   |some ca=>match d14 P t ca with|true=>.done (.va id c p (U.an ca)) []|false=>.fail
   |none=>.fail
 |_,_=>.fail
def f0n{U:Uni}(t:TypeId)(x:U.AV)(lo hi:A3 Operand):U.Q:=match x with
 |.str s=>match P.underlying t with|some .string=>bnd lo 0 λa=>bnd hi (s.size:Int) λb=>.opt (c3u s a b) λr=>.done (.str r) []|_=>.fail
 |.list c l=>match b2o P t c with|true=>bnd lo 0 λa=>bnd hi (l.length:Int) λb=>.opt (a1x l a b) λr=>.done (.list c r) []|false=>.fail
 |.ref id=>.rdM id λm=>match m with
   |.sl _ c l=>match b2o P t c with|true=>bnd lo 0 λa=>bnd hi (l.length:Int) λb=>.opt (a1x l a b) λr=>.done (.list c r) [(id,.fz c l)]|false=>.fail
   |.fz c l=>match b2o P t c with|true=>bnd lo 0 λa=>bnd hi (l.length:Int) λb=>.opt (a1x l a b) λr=>.done (.list c r) []|false=>.fail
   |_=>.fail
 |.fref id c p=>arrQ P t id c p lo hi|.rp (.val ca z)=>match lo,hi with|none,none=>(match d14 P t ca&&Nat.ble (U.an ca) 1000000with|true=>.done (.list (U.ae ca) (U.al ca z)) []|false=>.fail)|_,_=>.fail
 |_=>.fail
def d2i(t e:TypeId):Bool:=match P.underlying t with|some (.slice e')=>Nat.beq e e'|_=>false
def g3w{U:Uni}(t:TypeId)(x:U.AV)(lo hi:A3 Operand):U.Q:=match x with
 |.ref id=>.rdM id λm=>match m with
   |.sl e c l=>match b2o P t c&&d2i P t e with
     |true=>bnd lo 0 λa=>match hi with|none=>.opt (a1x l a (l.length:Int)) λr=>.done (.vw id c a r.length) []|some _=>.fail
     |false=>.fail
   |_=>.fail
 |_=>.fail
def h41{U:Uni}(fr:Nat)(t:TypeId)(x:U.AV)(lo hi:A3 Operand):U.Q:=match x with
 |.ref id=>.rdM id λm=>match m with
   |.sl e c l=>match b2o P t c&&d2i P t e with
     |true=>bnd lo 0 λa=>bnd hi (l.length:Int) λb=>.opt (a1x l a b) λr=>.rdM fr λ|.never=>.done (.ref fr) [(fr,.sl e c r),(id,.dead)]|_=>.fail
     |false=>.fail
   |_=>.fail
 |_=>.fail
def h1h{α:Type}(z:α)(l:O α)(lo:Int)(n:Nat):A3 (O α):=if 0<=lo/\lo.toNat+n=l.length then some (b5l z l lo)else none
def e76{U:Uni}(t:TypeId)(x:U.AV):U.Q:=match x with
 |.vw id c lo n=>.rdM id λm=>match m with
   |.sl e c' l=>match d2i P t e&&d81 P e (U.n c),b8i c l,b7m P e with
     |true,some l,some a=>match prj c a with|some z=>.opt (h1h z l lo n) λr=>.done .unk [(id,.sl e c r)]|none=>.fail
     |_,_,_=>.fail
   |_=>.fail
 |_=>.fail
def mkI{α:Type}(bytes:Nat)(z:α)(n m:Int):A3 (O α):=if 0<=n/\m=n/\(bytes:Int)*n<=281474976710656/\n<=9223372036854775807then some (List.replicate n.toNat z)else none
def c5k{U:Uni}(fr:Nat)(t:TypeId)(x y:U.AV):U.Q:=match P.underlying t with
 |some (.slice e)=>match U.cd e,b7m P e,g1d x,g1d y with
   |some c,some a,some n,some m=>match d81 P e (U.n c),prj c a with
     |true,some z=>.opt (mkI (d2w P e) z n m) λr=>.rdM fr λ|.never=>.done (.ref fr) [(fr,.sl e c r)]|_=>.fail
     |_,_=>.fail
   |_,_,_,_=>.fail
 |_=>.fail
def c63{α:Type}(l:O α)(a b m:Int):A3 (O α):=if b<=m/\m<=(l.length:Int)then a1x l a b else none
def d9n{U:Uni}(t:TypeId)(x:U.AV)(lo:A3 Operand)(hi mx:Operand):U.Q:=match x with
 |.list c l=>match b2o P t c with|true=>bnd lo 0 λa=>bnd (some hi) 0 λb=>bnd (some mx) 0 λm=>.opt (c63 l a b m) λr=>.done (.list c r) []|false=>.fail
 |.ref id=>.rdM id λm=>match m with
   |.sl _ c l=>match b2o P t c with|true=>bnd lo 0 λa=>bnd (some hi) 0 λb=>bnd (some mx) 0 λm=>.opt (c63 l a b m) λr=>.done (.list c r) [(id,.fz c l)]|false=>.fail
   |.fz c l=>match b2o P t c with|true=>bnd lo 0 λa=>bnd (some hi) 0 λb=>bnd (some mx) 0 λm=>.opt (c63 l a b m) λr=>.done (.list c r) []|false=>.fail
   |_=>.fail
 |_=>.fail
def b5r:O (Int×Int)->Int->A3 Int|[],_=>none|q::r,k=>if q.1=k then some q.2else b5r r k
def a62:O (Int×Int)->Int->Int->O (Int×Int)|[],k,v=>[(k,v)]|q::r,k,v=>if q.1=k then(k,v)::r else q::a62 r k v
def b5g(l:O (Int×Int))(k:Int):Int:=match b5r l k with|some v=>v|none=>0
def c7s(l:O (Int×Int))(k:Int):Bool:=match b5r l k with|some _=>true|none=>false
def d27(t:TypeId):Bool:=match P.underlying t with|some (.map k e)=>(match P.underlying k,P.info? e with|some (.int .i64),some i=>(match i.zero with|some (.int .i64 0)=>true|_=>false)|_,_=>false)|_=>false
def e35{U:Uni}(fr:Nat):U.Q:=.rdM fr λ|.never=>.done (.ref fr) [(fr,.mp [])]|_=>.fail
def e1g{U:Uni}(t:TypeId)(x k:U.AV)(ok:Bool):U.Q:=match x,g1d k,d27 P t with
 |.ref id,some k,true=>.rdM id λm=>match m with
   |.mp l=>match ok with|true=>.done (.tup [.int .i64 (b5g l k),.bool (c7s l k)]) []|false=>.done (.int .i64 (b5g l k)) []
   |_=>.fail
 |_,_,_=>.fail
def c62{U:Uni}(t:TypeId)(x k y:U.AV):U.Q:=match x,g1d k,g1d y,d27 P t with
 |.ref id,some k,some v,true=>.rdM id λm=>match m with|.mp l=>.done .unk [(id,.mp (a62 l k v))]|_=>.fail
 |_,_,_,_=>.fail
def d0v{U:Uni}:O (Nat×Nat)->O U.AV->O U.AV|[],l=>l|q::m,l=>(d0v m l).set q.1 .nils
def b8h{U:Uni}:O (Nat×Nat)->O U.AV->O U.AV|[],l=>l|q::m,l=>(b8h m l).set q.1 (.ref q.2)
def c71{U:Uni}(fs:O U.AV)(f:Nat):A3 Nat:=match fs[f]?with|some (.ref i)=>some i|_=>none
inductive PK(C:Type)where|v(c:C)|ls(c:C)|ow(e:TypeId)(c:C)|rp(t:TypeId)(c:C)|io(t:TypeId)(c:C)|im(t:TypeId)(c:C)(m:List (Nat×Nat))|po(b f:Nat)(e:TypeId)(c:C)|cl(f:FuncId)(cs:List C)|so(e:TypeId)(c:C)|bn(f:FuncId)(c:C)|km(g:FuncId)(t:TypeId)|vl(g:FuncId)(t:TypeId)(c:C)
inductive RK(C:Type)where|v(c:C)|ls(c:C)|ow(e:TypeId)(c:C)|bo(t:TypeId)(c:C)
@[reducible] def CapT(U:Uni):O U.C->Type|[]=>Unit|c::cs=>U.T c×CapT U cs
@[reducible] def PK.T(U:Uni):PK U.C->Type|.v c=>U.T c|.ls c=>O (U.T c)|.ow _ c=>O (U.T c)|.rp _ c=>U.T c|.io _ c=>U.T c|.im _ c _=>U.T c|.po _ _ _ c=>O (U.T c)|.cl _ cs=>CapT U cs|.so _ c=>O (U.T c)|.bn _ c=>U.T c|.km _ _=>O (Int×Int)|.vl _ _ c=>O (U.T c)
@[reducible] def RK.T(U:Uni):RK U.C->Type|.v c=>U.T c|.ls c=>O (U.T c)|.ow _ c=>O (U.T c)|.bo _ c=>A3 (U.T c)
@[reducible] def Args(U:Uni):O (PK U.C)->Type|[]=>Unit|p::ps=>p.T U×Args U ps
@[reducible] def Ress(U:Uni):O (RK U.C)->Type|[]=>Unit|p::ps=>p.T U×Ress U ps
@[reducible] def Outs(U:Uni):O (PK U.C)->Type|[]=>Unit|.io _ c::ps=>U.T c×Outs U ps|.im _ c _::ps=>U.T c×Outs U ps|.po _ _ _ c::ps=>O (U.T c)×Outs U ps|.so _ c::ps=>O (U.T c)×Outs U ps|_::ps=>Outs U ps
def npK{C:Type}:O (PK C)->Nat|[]=>0|.po _ _ _ _::ps=>npK ps|_::ps=>npK ps+1
def d4j{C:Type}:PK C->Bool|.po _ _ _ _=>true|_=>false
def c2u{C:Type}(all:O (PK C)):Nat->O (PK C)->Bool|_,[]=>true|i,.im _ _ m::ps=>(m.all λq=>match all[q.2]?with|some (.po b f _ _)=>Nat.beq b i&&Nat.beq f q.1|_=>false)&&c2u all (i+1) ps|i,_::ps=>c2u all (i+1) ps
def h0i{C:Type}(ps:O (PK C)):Bool:=(ps.drop (npK ps)).all d4j
def b4o{C:Type}(ps:O (PK C)):Bool:=c2u ps 0 ps&&h0i ps
structure Sig(U:Uni)where ps:O (PK U.C)rs:O (RK U.C)
inductive Kc(U:Uni)where|seq(g:FuncId)(t:TypeId)(c:Option U.C)|qy(q:Nat->List U.AV->U.Q)
structure Fent(U:Uni)where
 s:Sig U
 B:Type
 F:Args U s.ps->A3 B
 wr:B->Ress U s.rs×Outs U s.ps
 kc:A3 (Kc U):=none
abbrev Phi(U:Uni):=FuncId->O U.AV->A3 (Fent U)
def argL{U:Uni}(c:U.C)(a:U.AV)(k:O (U.T c)->O (Nat×U.MC)->U.Q):U.Q:=match a with
 |.list _ l=>match b8i c l with|some l=>k l []|none=>.fail
 |.nils=>k [] []|.ref id=>.rdM id λm=>match m with
   |.sl _ c' l'=>match b8i c l' with|some l=>k l [(id,.fz c' l')]|none=>.fail
   |.fz _ l=>match b8i c l with|some l=>k l []|none=>.fail
   |_=>.fail
 |_=>.fail
def h1o{U:Uni}(c:U.C)(b:U.AV)(k:U.T c->O (Nat×U.MC)->U.Q):U.Q:=match b with
 |.st c' fs=>d93 fs λas ws=>match U.mkv c' as with|some x=>(match cst c x with|some x=>k x ws|none=>.fail)|none=>.fail
 |b=>match prj c b with|some x=>k x []|none=>.fail
def rpQ{U:Uni}(nf:Bool)(c:U.C)(a:U.AV)(k:U.T c->O (Nat×U.MC)->U.Q):U.Q:=match a with
 |.rp b=>match prj c b with|some x=>k x []|none=>.fail
 |.ref id=>match nf with|true=>.fail|false=>.rdM id λm=>match m with|.box t' b=>h1o c b λx ws=>k x ((id,.dead)::ws)|_=>.fail
 |_=>.fail
def h3f{U:Uni}(nf:Bool):(cs:O U.C)->O U.AV->(CapT U cs->O (Nat×U.MC)->U.Q)->U.Q|[],[],k=>k () []|c::cs,a::as,k=>rpQ nf c a λx fz=>h3f nf cs as λxs fzs=>k (x,xs) (fz++fzs)|_,_,_=>.fail
def h3q{U:Uni}(all fs:O U.AV)(m:O (Nat×Nat)):Bool:=m.all λq=>match c71 fs q.1,all[q.2]?with|some i,some (.ref j)=>Nat.beq i j|_,_=>false
def e5a{U:Uni}(nf:Bool)(all:O U.AV)(p:PK U.C)(a:U.AV)(k:p.T U->O Nat->O (Nat×U.MC)->U.Q):U.Q:=match p with
 |.v c=>match prj c a with|some x=>k x [] []|none=>.fail
 |.ls c=>argL c a λl fz=>k l [] fz|.ow e c=>match a with
   |.nils=>k [] [] []|.ref id=>.rdM id λm=>match m with
     |.sl e' _ l=>match Nat.beq e e',b8i c l with|true,some l=>k l [id] []|_,_=>.fail
     |_=>.fail
   |_=>.fail
 |.rp t c=>rpQ nf c a λx fz=>k x [] fz|.cl f cs=>match a with
   |.clo f' as=>match Nat.beq f f' with|true=>h3f nf cs as λx fz=>k x [] fz|false=>.fail
   |_=>.fail
 |.bn f c=>match a with
   |.bnd f' b=>match Nat.beq f f',prj c b with|true,some x=>k x [] []|_,_=>.fail
   |_=>.fail
 |.km g t=>match nf,a with
   |false,.clo g' [.ref i]=>.rdM i λm=>match m with
     |.box t' (.ref j)=>.rdM j λm=>match m with
       |.mp l=>match Nat.beq g g'&&Nat.beq t t' with|true=>k l [] [(i,.dead),(j,.dead)]|false=>.fail
       |_=>.fail
     |_=>.fail
   |_,_=>.fail
 |.vl g t c=>match nf,a with
   |false,.clo g' [.ref i]=>.rdM i λm=>match m with
     |.box t' b=>match Nat.beq g g'&&Nat.beq t t',b with|true,.list _ l=>(match b8i c l with|some l=>k l [] [(i,.dead)]|none=>.fail)|true,.nils=>k [] [] [(i,.dead)]|_,_=>.fail
     |_=>.fail
   |false,.vl g' t' _ l=>(match Nat.beq g g'&&Nat.beq t t',b8i c l with|true,some l=>k l [] []|_,_=>.fail)|_,_=>.fail
 |.po _ _ e c=>match a with
   |.ref id=>.rdM id λm=>match m with
     |.sl e' _ l=>match Nat.beq e e',b8i c l with|true,some l=>k l [id] []|_,_=>.fail
     |_=>.fail
   |_=>.fail
 |.so e c=>match a with
   |.ref id=>.rdM id λm=>match m with
     |.sl e' _ l=>match Nat.beq e e',b8i c l with|true,some l=>k l [id] []|_,_=>.fail
     |_=>.fail
   |_=>.fail
 |.im t c mm=>match a with
   |.ref id=>.rdM id λm=>match m with
     |.box t' (.st c' fs)=>match Nat.beq t t'&&eqC c c'&&h3q all fs mm,U.mkv c (d0v mm fs)with|true,some x=>k x [id] []|_,_=>.fail
     |_=>.fail
   |_=>.fail
 |.io t c=>match a with
   |.ref id=>.rdM id λm=>match m with|.box t' b=>(match Nat.beq t t' with|true=>h1o c b λx ws=>k x [id] ws|false=>.fail)|_=>.fail
   |_=>.fail
def g55{U:Uni}(nf:Bool)(all:O U.AV):(ps:O (PK U.C))->O U.AV->(Args U ps->O (O Nat)->O (Nat×U.MC)->U.Q)->U.Q|[],[],k=>k () [] []|p::ps,a::as,k=>e5a nf all p a λx i fz=>g55 nf all ps as λxs is fzs=>k (x,xs) (i::is) (fz++fzs)|_,_,_=>.fail
def f9j{U:Uni}:O (PK U.C)->O U.AV->(O U.AV->U.Q)->U.Q
 |.im _ _ mm::ps,.ref id::as,k=>.rdM id λm=>match m with|.box _ (.st _ fs)=>f9j ps as λr=>k ((mm.filterMap λq=>(c71 fs q.1).map AV.ref)++r)|_=>.fail
 |_::ps,_::as,k=>f9j ps as k|_,_,k=>k []
def b70{U:Uni}(b:Nat):(k:Nat)->(ps:O (PK U.C))->O (O Nat)->Outs U ps->O (Nat×U.MC)|k,.io t c::ps,i::is,(x,xs)=>(i.map λid=>(id,.box t (inj c x)))++b70 b (k+1) ps is xs|k,.im t c m::ps,i::is,(x,xs)=>(i.map λid=>(id,.box t (.st c (b8h (m.map λq=>(q.1,b+q.2)) (U.flds c x)))))++b70 b (k+1) ps is xs|k,.po _ _ e c::ps,_::is,(x,xs)=>(b+k,.sl e c x)::b70 b (k+1) ps is xs|k,.so e c::ps,i::is,(x,xs)=>(i.map λid=>(id,.sl e c x))++b70 b (k+1) ps is xs|k,.ow _ _::ps,_::is,xs=>b70 b (k+1) ps is xs|k,.v _::ps,_::is,xs=>b70 b (k+1) ps is xs|k,.ls _::ps,_::is,xs=>b70 b (k+1) ps is xs|k,.rp _ _::ps,_::is,xs=>b70 b (k+1) ps is xs|k,.cl _ _::ps,_::is,xs=>b70 b (k+1) ps is xs|k,.bn _ _::ps,_::is,xs=>b70 b (k+1) ps is xs|k,.km _ _::ps,_::is,xs=>b70 b (k+1) ps is xs|k,.vl _ _ _::ps,_::is,xs=>b70 b (k+1) ps is xs|_,_,_,_=>[]
def e07{U:Uni}:(ps:O (PK U.C))->O (O Nat)->O Nat|.ow _ _::ps,i::is=>i++e07 ps is|.po _ _ _ _::ps,i::is=>i++e07 ps is|_::ps,_::is=>e07 ps is|_,_=>[]
def d23{U:Uni}:(fr:Nat)->(rs:O (RK U.C))->Ress U rs->O U.AV×O (Nat×U.MC)|_,[],_=>([],[])|fr,.v c::rs,(x,xs)=>let q:=d23 fr rs xs;(inj c x::q.1,q.2)|fr,.ls c::rs,(x,xs)=>let q:=d23 fr rs xs;(.list c x::q.1,q.2)|fr,.ow e c::rs,(x,xs)=>let q:=d23 (fr+1) rs xs;(.ref fr::q.1,(fr,.sl e c x)::q.2)|fr,.bo t c::rs,(some x,xs)=>let q:=d23 (fr+1) rs xs;(.ref fr::q.1,(fr,.box t (inj c x))::q.2)|fr,.bo t c::rs,(none,xs)=>let q:=d23 (fr+1) rs xs;(.nilp::q.1,(fr,.dead)::q.2)
def g6e{U:Uni}:(rs:O (RK U.C))->Ress U rs->(Ress U rs->U.Q)->U.Q|[],_,k=>k ()|.v c::rs,(x,xs),k=>g6e rs xs λys=>k (x,ys)|.ls c::rs,(x,xs),k=>g6e rs xs λys=>k (x,ys)|.ow e c::rs,(x,xs),k=>g6e rs xs λys=>k (x,ys)|.bo t c::rs,(x,xs),k=>.cas x (g6e rs xs λys=>k (none,ys)) λy=>g6e rs xs λys=>k (some y,ys)
def h1s{U:Uni}:O U.AV->U.AV|[a]=>a|as=>.tup as
def c6k:O (O Nat)->Bool|[]=>true|i::is=>(i.all λa=>is.all λjs=>js.all λb=>!(Nat.beq a b))&&c6k is
def e8u{U:Uni}:RK U.C->Bool|.v c=>U.flat c|.ls _=>false|.ow _ c=>U.flat c|.bo _ c=>U.flat c
def d0c{U:Uni}:PK U.C->Bool|.io _ c=>U.flat c|.im _ c m=>U.flat c||(f9n c&&m.any λq=>Nat.beq q.1 0)|.po _ _ _ c=>U.flat c|.so _ c=>U.flat c|_=>true
def Sig.nf{U:Uni}(s:Sig U):Bool:=!(s.rs.all e8u&&s.ps.all d0c)
def h1m{U:Uni}(fr n:Nat)(ps:O (PK U.C)):O Nat:=(List.range ps.length).filterMap λk=>match ps[k]?with|some p=>bif d4j p then some (fr+n+k)else none|none=>none
def h3i{U:Uni}(fr:Nat)(g:FuncId)(t:TypeId)(c:A3 U.C)(as:O U.AV):U.Q:=match c,as with
 |none,[.ref id]=>.rdM id λm=>match m with
   |.mp _=>.rdM fr λ|.never=>.done (.clo g [.ref fr]) [(fr,.box t (.ref id))]|_=>.fail
   |_=>.fail
 |some _,[.list c l]=>.rdM fr λ|.never=>.done (.clo g [.ref fr]) [(fr,.box t (.list c l))]|_=>.fail
 |some _,[.nils]=>.rdM fr λ|.never=>.done (.clo g [.ref fr]) [(fr,.box t .nils)]|_=>.fail
 |_,_=>.fail
def f8h{U:Uni}(Φ:Phi U)(fr:Nat)(f:FuncId)(as:O U.AV):U.Q:=match Φ f as with
 |some fe=>match fe.kc with|some (.seq g t c)=>h3i fr g t c as|some (.qy q)=>q fr as|none=>match b4o fe.s.ps&&Nat.beq as.length (npK fe.s.ps)with
   |true=>f9j fe.s.ps as λex=>g55 fe.s.nf (as++ex) fe.s.ps (as++ex) λxs is fz=>match c6k (is++[fz.map (·.1)])with
     |true=>.opt (fe.F xs) λb=>g6e fe.s.rs (fe.wr b).1 λr=>match d23 fr fe.s.rs r,b70 (fr+fe.s.rs.length) 0 fe.s.ps is (fe.wr b).2with|(vs,ms),os=>g6x (ms.map (·.1)) (g6x (h1m fr fe.s.rs.length fe.s.ps) (.done (h1s vs) (ms++(os++(((e07 fe.s.ps is).map λid=>(id,.dead))++match fe.s.nf with|true=>fz|false=>[])))))
     |false=>.fail
   |false=>.fail
 |none=>.fail
end
end Go.SX
namespace Go.SX
open Go Go.PL
section
variable (P:Program) {U:Uni} (Φ:Phi U)
def mmQ(mx:Bool)(a b:U.AV):U.Q:=match a,b with
 |.int .i64 a,.int .i64 b=>match mx with|true=>.done (.int .i64 (max a b)) []|false=>.done (.int .i64 (min a b)) []
 |_,_=>.fail
def g8b(e x y:U.AV):U.Q:=match e,x,y with|.bool e,.bool x,.bool y=>.done (.bool (bif e then x else y)) []|_,_,_=>.fail
def h3c(a:U.AV):U.Q:=match a with
 |.ref id=>.rdM id λ|.box t a=>.done (.ref id) []|_=>.fail
 |.rp a=>.done (.rp a) []|.fref id c p=>.done (.fref id c p) []|_=>.fail
def opQ(fr:Nat):Op->U.Q
 |.move x=>rdO x λa=>.done a []|.assign x=>rdO x λa=>.done a []|.pick c a b=>rdO c λe=>rdO a λx=>rdO b λy=>g8b e x y|.binOp op t x y _=>rdO x λa=>rdO y λb=>match b0p a&&b0p b with|true=>h3e P op t a b|false=>h2n P op t a b
 |.unOp op _ x=>rdO x λa=>unQ op a|.convert s t x=>rdO x λa=>match g38 P s t with|true=>h2h P s a|false=>g2y P s t a
 |.alloc t=>match b7m P t with
   |some a=>match b33 P t a with|true=>g7b P fr t a|false=>.fail
   |none=>.fail
 |.box t x=>rdO x λa=>match b33 P t a with|true=>g7b P fr t a|false=>.fail
 |.load t x=>rdO x λa=>g8f P t a|.store t x y=>rdO x λa=>rdO y λb=>e7c P fr t a b|.fieldAddr s x f=>rdO x λ|.fref id c p=>e0q P s f id c p|a=>e7u P s f a
 |.field s x f=>rdO x λa=>g4d P s f a|.indexAddr t x y=>rdO x λa=>rdO y λb=>c68 P t a b|.index t x y=>rdO x λa=>rdO y λb=>e7e P t a b|.build t ps=>g03 (ps.toList.map (·.2)) λas=>match g8y P t with|true=>d9k P t (ps.toList.map (·.1)) as|false=>f0r P t (ps.toList.map (·.1)) as
 |.buildSlice t n ps=>g03 (ps.toList.map (·.2)) λas=>c3r P fr t n (ps.toList.map (·.1)) as|.slice t x lo hi none=>rdO x λa=>f0n P t a lo hi|.slice t x lo (some hi) (some mx)=>rdO x λa=>d9n P t a lo hi mx|.makeSlice t n m=>rdO n λa=>rdO m λb=>c5k P fr t a b|.makeMap t none=>e35 fr|.lookup t x k ok=>rdO x λa=>rdO k λb=>e1g P t a b ok|.mapUpdate t x k y=>rdO x λa=>rdO k λb=>rdO y λc=>c62 P t a b c|.extract x i=>rdO x λ
   |.tup as=>match as[i]?with|some a=>.done a []|none=>.fail
   |_=>.fail
 |.range t x=>rdO x λa=>e9h P fr t a|.next x true=>rdO x g5i|.next x false=>rdO x f0b|.nilCheck x=>rdO x h3c|.makeInterface t x=>rdO x λa=>match P.underlying t,a with|some (.slice _),.ref id=>.done (.ifc t (.ref id)) []|_,_=>.fail
 |.makeFunc fn first cs=>match fn,first.toList with
   |.func f,[]=>g03 cs.toList λas=>match as.all c1d with|true=>.done (.clo f as) []|false=>.fail
   |.func f,[x]=>match cs.toList with
     |[]=>rdO x λa=>match a with|.val c y=>.done (.bnd f (.val c y)) []|_=>.fail
     |_=>.fail
   |_,_=>.fail
 |.call ⟨.value x,args,_⟩=>rdO x λ|.clo f cs=>g03 args.toList λas=>f8h Φ fr f (as++cs)|.bnd f (.val c y)=>g03 args.toList λas=>f8h Φ fr f (.val c y::as)|_=>.fail
 |.call ⟨.builtin .len,args,tys⟩=>match args.toList,tys.toList with|[x],[t]=>rdO x λa=>h3u P t a|_,_=>.fail
 |.call ⟨.builtin .clear,args,tys⟩=>match args.toList,tys.toList with|[x],[t]=>rdO x λa=>e76 P t a|_,_=>.fail
 |.call ⟨.builtin .append,args,tys⟩=>match args.toList,tys.toList with
   |[x,y],[t,t']=>match Nat.beq t t' with|true=>rdO x λa=>rdO y λb=>h35 P fr t a b|false=>.fail
   |_,_=>.fail
 |.call ⟨.builtin .max,args,_⟩=>match args.toList with|[x,y]=>rdO x λa=>rdO y λb=>mmQ true a b|_=>.fail
 |.call ⟨.builtin .min,args,_⟩=>match args.toList with|[x,y]=>rdO x λa=>rdO y λb=>mmQ false a b|_=>.fail
 |_=>.fail
def opX(sp:O Nat)(i fr:Nat)(op:Op):U.Q:=match sp with|[]=>opQ P Φ fr op|_::_=>match op with
   |.slice t x lo hi none=>match sp.any (Nat.beq (1000+i)),sp.any (Nat.beq (2000+i))with|true,_=>rdO x λa=>g3w P t a lo hi|false,true=>rdO x λa=>h41 P fr t a lo hi|false,false=>opQ P Φ fr (.slice t x lo hi none)
   |.store t x y=>match sp.any (Nat.beq (3000+i))with|true=>rdO x λa=>rdO y λb=>e11 P fr t a b|false=>match sp.any (Nat.beq (6000+i))with|true=>rdO x λa=>rdO y λb=>e0a P t a b|false=>match sp.any (Nat.beq (7000+i))with|true=>rdO x λa=>rdO y λb=>d96 P t a b|false=>opQ P Φ fr (.store t x y)
   |.load t x=>match sp.any (Nat.beq (4000+i))with|true=>rdO x λa=>e9z P t a|false=>match sp.any (Nat.beq (6000+i))with|true=>rdO x λa=>f1l P t a|false=>opQ P Φ fr (.load t x)
   |.alloc t=>match sp.any (Nat.beq (6000+i))with|true=>e1i P fr t|false=>opQ P Φ fr (.alloc t)
   |.box t x=>match sp.any (Nat.beq (6000+i))with|true=>rdO x λa=>g39 P fr t a|false=>opQ P Φ fr (.box t x)
   |op=>opQ P Φ fr op
def c5h(ops:O Oper)(g:Nat):A3 Tmp:=match ops[g]?with|some o=>o.dst|none=>none
def gq(ops:O Oper)(o:Oper)(q:U.Q):U.Q:=match o.guard with|none=>q|some (g,want)=>match c5h ops g with
   |some t=>.rdT t λ
     |.bool b=>match b==want with|true=>q|false=>.done .undef []
     |.undef=>.done .undef []|_=>.fail
   |none=>.fail
def f5i(o:Oper):O Nat:=o.op.operands.toList.filterMap λ|.tmp t=>some t|_=>none
def bits(l:O Nat):Nat:=l.foldl (λm k=>m|||2^k) 0
def g95(b:Nat):Nat:=(2^(2*b)-1)/3*2
def g8r(o:Oper):Nat:=match o.dst with|some d=>2^(2*d)|none=>0
def c2s(o:Oper)(ws:O (Nat×U.MC)):Nat:=ws.foldl (λm w=>m|||2^(2*w.1+1)) (g8r o)
def b9d(ops:O Oper)(o:Oper)(b:Nat):Nat:=bits ((f5i o).map (2*.))|||g95 b|||(match o.guard with|some (g,_)=>(match c5h ops g with|some t=>2^(2*t)|none=>0)|none=>0)
def e0c(bef r w:Nat)(hist:O (Nat×Nat×Nat)):Bool:=hist.all λh=>bef.testBit h.1||(Nat.beq (w&&&(h.2.1|||h.2.2)) 0&&Nat.beq (h.2.2&&&r) 0)
def e99:O Nat->O Oper->O Nat|acc,[]=>acc|acc,o::r=>match o.after.toList.foldl (λs e=>bif Region.binds .any e then s|||2^e.on|||acc.getD e.on 0 else s) 0with|0=>e99 (acc++[0]) r|m+1=>e99 (acc++[m+1]) r
def g6n(ops:O Oper):O Nat:=e99 [] ops
def e42:∀(ops:O Oper)(acc:O Nat),e99 acc ops=ops.foldl (λacc o=>acc++[o.after.toList.foldl (λs e=>bif Region.binds .any e then s|||2^e.on|||acc.getD e.on 0 else s) 0]) acc:=by intro o;induction o<;>grind[e99]
def c0g(σ:U.St)(x:Operand):A3 Bool:=match x with
 |.const (.bool b)=>some b|.tmp t=>match σ.slot t with|.bool b=>some b|_=>none
 |_=>none
def c2v(g:Nat)(want:Bool)(i:Nat)(q:Nat×Oper):Bool:=match q.2.guard with|some (g',w')=>(Nat.beq g' g&&(w'==want))||(Nat.ble i g'&&Nat.blt g' q.1)|none=>false
def hasG(ctx:O (Nat×Bool))(g:Nat)(want:Bool):Bool:=ctx.any λc=>Nat.beq c.1 g&&(c.2==want)
def okG(ctx:O (Nat×Bool))(o:Oper):Bool:=match o.guard with|none=>true|some (g,w)=>hasG ctx g w
def b4l(σ:U.St)(l:O (Nat×Oper)):U.St:=l.foldl (λσ q=>σ.put q.2.dst .unk) σ
structure RegC where
 base:Nat
 ops:O Oper
 bef:O Nat
 draw:Bool
 lim:Nat
 sp:O Nat
def d16(C:RegC)(l:O (Nat×Oper)):O (Nat×Nat×Nat):=l.map λq=>(q.1,b9d C.ops q.2 C.lim,g8r q.2)
def b6z(C:RegC):O (Nat×Nat×Nat)->O (Nat×Nat×Nat)->Bool|[],_=>true|e::es,hist=>e0c (C.bef.getD e.1 0) e.2.1 e.2.2 hist&&b6z C es (e::hist)
def d7z(C:RegC)(ctx:O (Nat×Bool))(d:A3 Tmp):Bool:=match d with
 |some d=>ctx.all λc=>match c5h C.ops c.1with|some t=>!(Nat.beq t d)|none=>false
 |none=>true
def h38(m s:Nat):Bool:=Nat.beq (m|||s) s
def f7n(t:Tmp)(l:O (Nat×Oper)):Bool:=l.all λq=>match q.2.dst with|some d=>!(Nat.beq d t)|none=>false
def d8e(q:Nat×Oper):A3 (Tmp×Tmp×Operand×Operand):=match q.2.dst,q.2.op with|some d,.pick (.tmp t) x y=>some (d,t,x,y)|_,_=>none
def f8p:Op->U.Q
 |.pick c a b=>rdO c λx=>match x with|.bool e=>(match e with|true=>rdO a λx=>.done x []|false=>rdO b λy=>.done y [])|_=>.fail
 |_=>.fail
def spG(C:RegC)(o:Oper):Bool:=(match o.guard with|some (g,_)=>C.sp.any (Nat.beq g)|none=>false)||(match o.op with
 |.pick (.tmp t) _ _=>C.sp.any λg=>match c5h C.ops g with|some t'=>Nat.beq t t'|none=>false
 |_=>false)
def g27:Op->Bool|.pick _ _ _=>true|_=>false
def g02{R:Type}(σ:U.St)(d:A3 Tmp)(k:U.St->A3 R):A3 R:=match d with
 |some t=>match σ.slot t with|.bool e=>if e=true then k (σ.put (some t) (.bool true))else k (σ.put (some t) (.bool false))|.undef=>k σ|_=>none
 |none=>none
def b5i(C:RegC){R:Type}:Nat->O (Nat×Oper)->O (Nat×Bool)->O (Nat×Nat×Nat)->U.St->(O (Nat×Nat×Nat)->U.St->A3 R)->A3 R|0,_,_,_,_,_=>none|_+1,[],_,hist,σ,K=>K hist σ|n+1,(i,o)::rest,ctx,hist,σ,K=>match(spG C o||C.sp.any (Nat.beq i))&&ctx.isEmpty with
   |true=>(gq C.ops o (match g27 o.op with|true=>f8p o.op|false=>opX P Φ C.sp i (C.base+16*i) o.op)).eval σ 0 λm v ws=>match !C.draw||e0c (C.bef.getD i 0) m (c2s o ws) hist with
     |true=>match C.sp.any (Nat.beq i)with|true=>g02 (σ.app o.dst v ws) o.dst λσ'=>b5i C n rest [] ((i,m,c2s o ws)::hist) σ' K|false=>b5i C n rest [] ((i,m,c2s o ws)::hist) (σ.app o.dst v ws) K
     |false=>none
   |false=>match okG ctx o with
   |true=>(opX P Φ C.sp i (C.base+16*i) o.op).eval σ 0 λm v ws=>match ctx with
     |[]=>match !C.draw||e0c (C.bef.getD i 0) m (c2s o ws) hist with|true=>b5i C n rest [] ((i,m,c2s o ws)::hist) (σ.app o.dst v ws) K|false=>none
     |c::ctx=>match ws with
       |[]=>match d7z C (c::ctx) o.dst&&h38 m (b9d C.ops o C.lim)with|true=>b5i C n rest (c::ctx) hist (σ.app o.dst v []) K|false=>none
       |_::_=>none
   |false=>match o.guard with|none=>none|some (g,want)=>match c5h C.ops g with|none=>none|some t=>match σ.slot t with
         |.bool e=>match((i,o)::rest).dropWhile (c2v g want i)with|[]=>none|p::rest'=>match d8e p with|none=>none|some (d,t',x,y)=>match Nat.beq t' t&&okG ctx p.2&&d7z C ctx (some d)&&f7n t (((i,o)::rest).takeWhile (c2v g want i))&&((((i,o)::rest).takeWhile (c2v g want i)).all λq=>d7z C ctx q.2.dst)with|false=>none|true=>Option.bind (match want with|true=>if e=true then b5i C n (((i,o)::rest).takeWhile (c2v g want i)) ((g,true)::ctx) hist σ λ_ σ'=>c0g σ' x else c0g (b4l σ (((i,o)::rest).takeWhile (c2v g want i))) y|false=>if e=true then c0g (b4l σ (((i,o)::rest).takeWhile (c2v g want i))) x else b5i C n (((i,o)::rest).takeWhile (c2v g want i)) ((g,false)::ctx) hist σ λ_ σ'=>c0g σ' y) λc=>match ctx with
                 |[]=>match !C.draw||b6z C (d16 C (((i,o)::rest).takeWhile (c2v g want i)++[p])) hist with|true=>b5i C n rest' [] ((d16 C (((i,o)::rest).takeWhile (c2v g want i)++[p])).reverse++hist) ((b4l σ (((i,o)::rest).takeWhile (c2v g want i))).put (some d) (.bool c)) K|false=>none
                 |c'::ctx=>b5i C n rest' (c'::ctx) hist ((b4l σ (((i,o)::rest).takeWhile (c2v g want i))).put (some d) (.bool c)) K
         |_=>none
def b34(k:Nat):O Oper->O (Nat×Oper)|[]=>[]|o::r=>(k,o)::b34 (k+1) r
def befD(ops:O Oper)(draw:Bool):O Nat:=match draw with|true=>g6n ops|false=>[]
def d6q(sp:O Nat)(ops:O Oper)(draw:Bool){R:Type}(σ:U.St)(K:U.St->A3 R):A3 R:=let n:=ops.length;b5i P Φ ⟨σ.nx,ops,befD ops draw,draw,σ.nx+16*n,sp⟩ (n+1) (b34 0 ops) [] [] σ λ_ σ'=>K ⟨σ'.sl,σ'.me,σ.nx+16*n⟩
def f3e{U:Uni}:(cs:O U.C)->CapT U cs->O U.AV|[],_=>[]|_::cs,(x,xs)=>.rp (inj _ x)::f3e cs xs
def h1x{U:Uni}:(cs:O U.C)->O U.AV->A3 (CapT U cs)|[],[]=>some ()|c::cs,.rp a::as=>(match prj c a with|some x=>(match h1x cs as with|some xs=>some (x,xs)|none=>none)|none=>none)|_,_=>none
inductive EK(C:Type)where|v(t:Nat)(c:C)|ls(t:Nat)(c:C)|ow(t:Nat)(id:Nat)(e:TypeId)(c:C)|bx(t:Nat)(id:Nat)(ty:TypeId)(c:C)|rp(t:Nat)(c:C)|of(t f:Nat)(id:Nat)(e:TypeId)(c:C)|bm(t:Nat)(id:Nat)(ty:TypeId)(c:C)(m:List (Nat×Nat))|it(t:Nat)(id:Nat)|cl(t:Nat)(f:FuncId)(cs:List C)|vw(t:Nat)(id:Nat)(c:C)|mp(t:Nat)(id:Nat)|cr(t:Nat)(f:FuncId)(is:List Nat)
@[reducible] def EK.T(U:Uni):EK U.C->Type|.v _ c=>U.T c|.ls _ c=>O (U.T c)|.ow _ _ _ c=>O (U.T c)|.bx _ _ _ c=>U.T c|.rp _ c=>U.T c|.of _ _ _ _ c=>O (U.T c)|.bm _ _ _ c _=>U.T c|.it _ _=>A4×Int|.cl _ _ cs=>CapT U cs|.vw _ _ _=>Int×Nat|.mp _ _=>O (Int×Int)|.cr _ _ _=>Unit
@[reducible] def Keep(U:Uni):O (EK U.C)->Type|[]=>Unit|[p]=>p.T U|p::q::ps=>p.T U×Keep U (q::ps)
def g4k{U:Uni}{p:EK U.C}:(es:O (EK U.C))->p.T U->Keep U es->Keep U (p::es)|[],x,_=>x|_::_,x,xs=>(x,xs)
def b0o{U:Uni}{p:EK U.C}:(es:O (EK U.C))->Keep U (p::es)->p.T U|[],x=>x|_::_,s=>s.1
def a7c{U:Uni}{p:EK U.C}:(es:O (EK U.C))->Keep U (p::es)->Keep U es|[],_=>()|_::_,s=>s.2
def d9f{U:Uni}{p:EK U.C}(es:O (EK U.C))(x:A3 (p.T U))(y:A3 (Keep U es)):A3 (Keep U (p::es)):=match x with|some a=>(match y with|some b=>some (g4k es a b)|none=>none)|none=>none
def g2u{U:Uni}(c:U.C)(a:U.AV):A3 (O (U.T c)):=match a with|.list _ l=>b8i c l|.nils=>some []|_=>none
def g40{U:Uni}(σ:U.St)(c:U.C)(a:U.AV):A3 (O (U.T c)):=match a with|.ref id=>(match σ.mem id with|.fz _ l=>b8i c l|_=>none)|a=>g2u c a
def alOK{U:Uni}(ren:O (Nat×Nat))(σ:U.St)(al:O (Nat×Nat)):Bool:=al.all λa=>match σ.slot a.1with|.ref id'=>ren.any λq=>Nat.beq q.1 id'&&Nat.beq q.2 a.2|_=>false
def h1a{U:Uni}(ren:O (Nat×Nat))(fs:O U.AV)(m:O (Nat×Nat)):Bool:=m.all λq=>match c71 fs q.1with|some i=>ren.any λr=>Nat.beq r.1 i&&Nat.beq r.2 q.2|none=>false
def g3s{U:Uni}(σ:U.St)(a:U.AV):U.AV:=match a with|.ref id=>(match σ.mem id with|.fz c l=>.list c l|_=>.ref id)|a=>a
def stF{U:Uni}(σ:U.St)(a:U.AV):U.AV:=match a with|.st c fs=>.st c (fs.map (g3s σ))|a=>a
def g0t{U:Uni}(σ:U.St):O U.AV->O (Nat×U.MC)|[]=>[]|.ref id::r=>(match σ.mem id with|.sl _ c l=>(id,.fz c l)::g0t σ r|_=>g0t σ r)|_::r=>g0t σ r
def e2k{U:Uni}(ren:O (Nat×Nat)):O U.AV->O Nat->Bool|[],[]=>true|.ref j::as,i::is=>(ren.any λq=>Nat.beq q.1 j&&Nat.beq q.2 i)&&e2k ren as is|_,_=>false
def c64{U:Uni}(pins:O Nat)(al:O (Nat×Nat)):(es:O (EK U.C))->(ren:O (Nat×Nat))->U.St->A3 (Keep U es)
 |[],ren,σ=>match(pins.all λi=>ren.any λq=>Nat.beq q.1 i&&Nat.beq q.2 i)&&alOK ren σ al with|true=>some ()|false=>none
 |.v t c::es,ren,σ=>d9f es (prj c (σ.slot t)) (c64 pins al es ren σ)|.ls t c::es,ren,σ=>d9f es (g40 σ c (σ.slot t)) (c64 pins al es ren σ)|.ow t id e c::es,ren,σ=>match σ.slot t with|.nils=>d9f es (some []) (c64 pins al es ren σ)|.ref id'=>(match(ren.any λq=>Nat.beq q.1 id'),σ.mem id' with|false,.sl e' _ l=>(match Nat.beq e e' with|true=>d9f es (b8i c l) (c64 pins al es ((id',id)::ren) σ)|false=>none)|_,_=>none)|_=>none
 |.bx t id ty c::es,ren,σ=>match σ.slot t with|.ref id'=>(match(ren.any λq=>Nat.beq q.1 id'),σ.mem id' with|false,.box ty' b=>(match Nat.beq ty ty' with|true=>d9f es (prj c (stF σ b)) (c64 pins al es ((id',id)::ren) σ)|false=>none)|_,_=>none)|_=>none
 |.rp t c::es,ren,σ=>match σ.slot t with|.rp b=>d9f es (prj c b) (c64 pins al es ren σ)|_=>none
 |.of t f id e c::es,ren,σ=>match σ.slot t with|.ref b=>(match σ.mem b with|.box _ (.st _ fs)=>(match c71 fs f with|some id'=>(match(ren.any λq=>Nat.beq q.1 id'),σ.mem id' with|false,.sl e' _ l=>(match Nat.beq e e' with|true=>d9f es (b8i c l) (c64 pins al es ((id',id)::ren) σ)|false=>none)|_,_=>none)|none=>none)|_=>none)|_=>none
 |.bm t id ty c m::es,ren,σ=>match σ.slot t with|.ref id'=>(match(ren.any λq=>Nat.beq q.1 id'),σ.mem id' with|false,.box ty' (.st c' fs)=>(match Nat.beq ty ty'&&eqC c c'&&h1a ren fs m with|true=>d9f es (U.mkv c (d0v m fs)) (c64 pins al es ((id',id)::ren) σ)|false=>none)|_,_=>none)|_=>none
 |.it t id::es,ren,σ=>match σ.slot t with|.ref id'=>(match(ren.any λq=>Nat.beq q.1 id'),σ.mem id' with|false,.it s p=>d9f es (some (s,p)) (c64 pins al es ((id',id)::ren) σ)|_,_=>none)|_=>none
 |.mp t id::es,ren,σ=>match σ.slot t with|.ref id'=>(match(ren.any λq=>Nat.beq q.1 id'),σ.mem id' with|false,.mp l=>d9f es (some l) (c64 pins al es ((id',id)::ren) σ)|_,_=>none)|_=>none
 |.cl t f cs::es,ren,σ=>match σ.slot t with|.clo f' as=>(match Nat.beq f f' with|true=>d9f es (h1x cs as) (c64 pins al es ren σ)|false=>none)|_=>none
 |.vw t id c::es,ren,σ=>match σ.slot t with|.vw id' c' lo n=>(match(ren.any λq=>Nat.beq q.1 id'&&Nat.beq q.2 id)&&eqC c c' with|true=>d9f es (some (lo,n)) (c64 pins al es ren σ)|false=>none)|_=>none
 |.cr t f is::es,ren,σ=>match σ.slot t with|.clo f' as=>(match Nat.beq f f'&&e2k ren as is with|true=>d9f es (some ()) (c64 pins al es ren σ)|false=>none)|_=>none
def b37{C:Type}:O (EK C)->O Nat|.ow _ id _ _::es=>id::b37 es|.bx _ id _ _::es=>id::b37 es|.of _ _ id _ _::es=>id::b37 es|.bm _ id _ _ _::es=>id::b37 es|.it _ id::es=>id::b37 es|.mp _ id::es=>id::b37 es|_::es=>b37 es|[]=>[]
def c6j:O Nat->Bool|[]=>true|i::is=>!(is.any (Nat.beq i))&&c6j is
def e6x{U:Uni}(σ:U.St):O (EK U.C)->O (Nat×U.MC)|[]=>[]|.ls t _::es=>(match σ.slot t with|.ref id=>(match σ.mem id with|.sl _ c l=>(id,.fz c l)::e6x σ es|_=>e6x σ es)|_=>e6x σ es)|.bx t _ _ _::es=>(match σ.slot t with|.ref id=>(match σ.mem id with|.box _ (.st _ fs)=>g0t σ fs++e6x σ es|_=>e6x σ es)|_=>e6x σ es)|_::es=>e6x σ es
def d6e{U:Uni}(pins:O Nat)(al:O (Nat×Nat))(es:O (EK U.C))(σ:U.St):A3 (Keep U es):=match c6j (b37 es)with|true=>c64 pins al es [] (σ.app none .unk (e6x σ es))|false=>none
def b64{U:Uni}(al:O (Nat×Nat)):(es:O (EK U.C))->Keep U es->U.St|[],_=>⟨al.map λa=>(a.1,.ref a.2),[],al.foldl (λm a=>max m (a.2+1)) 0⟩|.v t c::es,s=>let σ:=b64 al es (a7c es s);⟨(t,inj c (b0o es s))::σ.sl,σ.me,σ.nx⟩|.ls t c::es,s=>let σ:=b64 al es (a7c es s);⟨(t,.list c (b0o es s))::σ.sl,σ.me,σ.nx⟩|.ow t id e c::es,s=>let σ:=b64 al es (a7c es s);⟨(t,.ref id)::σ.sl,(id,.sl e c (b0o es s))::σ.me,max (id+1) σ.nx⟩|.bx t id ty c::es,s=>let σ:=b64 al es (a7c es s);⟨(t,.ref id)::σ.sl,(id,.box ty (inj c (b0o es s)))::σ.me,max (id+1) σ.nx⟩|.rp t c::es,s=>let σ:=b64 al es (a7c es s);⟨(t,.rp (inj c (b0o es s)))::σ.sl,σ.me,σ.nx⟩|.of t f id e c::es,s=>let σ:=b64 al es (a7c es s);⟨σ.sl,(id,.sl e c (b0o es s))::σ.me,max (id+1) σ.nx⟩|.bm t id ty c m::es,s=>let σ:=b64 al es (a7c es s);⟨(t,.ref id)::σ.sl,(id,.box ty (.st c (b8h m (U.flds c (b0o es s)))))::σ.me,max (id+1) σ.nx⟩|.it t id::es,s=>let σ:=b64 al es (a7c es s);⟨(t,.ref id)::σ.sl,(id,.it (b0o es s).1 (b0o es s).2)::σ.me,max (id+1) σ.nx⟩|.mp t id::es,s=>let σ:=b64 al es (a7c es s);⟨(t,.ref id)::σ.sl,(id,.mp (b0o es s))::σ.me,max (id+1) σ.nx⟩|.cl t f cs::es,s=>let σ:=b64 al es (a7c es s);⟨(t,.clo f (f3e cs (b0o es s)))::σ.sl,σ.me,σ.nx⟩|.vw t id c::es,s=>let σ:=b64 al es (a7c es s);⟨(t,.vw id c (b0o es s).1 (b0o es s).2)::σ.sl,σ.me,σ.nx⟩|.cr t f is::es,s=>let σ:=b64 al es (a7c es s);⟨(t,.clo f (is.map .ref))::σ.sl,σ.me,σ.nx⟩
def isRp{U:Uni}:U.AV->Bool|.rp _=>true|_=>false
def e09{U:Uni}:U.AV->Bool|.bool _|.int _ _|.str _|.val _ _|.list _ _|.nils|.nilp|.undef|.rp _=>true|.clo _ as=>as.all isRp|.bnd _ (.val _ _)=>true|_=>false
def f3c{U:Uni}(σ:U.St):O Nat->O (Nat×U.AV)|[]=>[]|t::r=>match e09 (σ.slot t)with|true=>(t,σ.slot t)::f3c σ r|false=>f3c σ r
def e5d{U:Uni}(σ:U.St)(inv:O Nat)(al:O (Nat×Nat))(es:O (EK U.C))(s:Keep U es):U.St:=let σ':=b64 al es s;⟨f3c σ inv++σ'.sl,σ'.me,σ'.nx⟩
inductive Ann(C:Type)where|n|s(a b:Ann C)|j(al:List (Nat×Nat))(es:List (EK C))(a b:Ann C)|l(inv:List Nat)(al:List (Nat×Nat))(es:List (EK C))(a:Ann C)|g(sp:List Nat)|z(fz sp:List Nat)
structure Kont(U:Uni)(R:Type)where
 norm:U.St->A3 R
 exit:Nat->U.St->A3 R
 ret:U.St->A3 R
def Ann.sp{C:Type}:Ann C->O Nat|.g sp=>sp|.z _ sp=>sp|_=>[]
def Ann.fz{C:Type}:Ann C->O Nat|.z fz _=>fz|_=>[]
def g6s{U:Uni}(σ:U.St):O Nat->O (Nat×U.MC)|[]=>[]|t::ts=>(match σ.slot t with|.ref id=>(match σ.mem id with|.sl _ c l=>(id,.fz c l)::g6s σ ts|_=>g6s σ ts)|_=>g6s σ ts)
def frzA{U:Uni}(σ:U.St)(ts:O Nat):U.St:=match ts with|[]=>σ|t::ts=>σ.app none .unk (g6s σ (t::ts))
def Ann.fst{C:Type}:Ann C->Ann C|.s a _=>a|.j _ _ a _=>a|a=>a
def Ann.snd{C:Type}:Ann C->Ann C|.s _ b=>b|.j _ _ _ b=>b|_=>.n
abbrev bindO{α β:Type}(o:A3 α)(f:α->A3 β):A3 β:=match o with|some a=>f a|none=>none
def joinC{α β:Type}(f:α->A3 β)(a:α):A3 β:=f a
def b5k:Code->O Nat|.region _ ops _=>ops.toList.filterMap (·.dst)|.seq a b=>b5k a++b5k b|.cond _ a b=>b5k a++b5k b|.block _ a=>b5k a|.loop a=>b5k a|_=>[]
def f1m(a b:O Nat):Bool:=a.all λx=>!(b.any (Nat.beq x))
def den{R:Type}(pins:O Nat):Code->Ann U.C->U.St->Kont U R->A3 R
 |.skip,_,σ,k=>k.norm σ|.region _ ops draw,an,σ,k=>d6q P Φ an.sp ops.toList draw (frzA σ an.fz) k.norm|.seq a b,an,σ,k=>match an with|.j al es a' b'=>den pins a a' σ ⟨λσ=>bindO (d6e pins al es σ) λs=>joinC (λs=>den pins b b' (b64 al es s) k) s,k.exit,k.ret⟩|an=>den pins a an.fst σ ⟨λσ=>den pins b an.snd σ k,k.exit,k.ret⟩
 |.cond c a b,an,σ,k=>match c0g σ c with|some e=>if e=true then den pins a an.fst σ k else den pins b an.snd σ k|none=>none
 |.block id a,an,σ,k=>den pins a an σ ⟨k.norm,λi σ=>match Nat.beq i id with|true=>k.norm σ|false=>k.exit i σ,k.ret⟩|.loop a,.l inv al es an,σ,k=>match f1m inv (b5k a)with|true=>bindO (d6e pins al es σ) λs=>d9 FU (λrec s=>den pins a an (e5d σ inv al es s) ⟨λσ'=>bindO (d6e pins al es σ') rec,k.exit,k.ret⟩) s|false=>none
 |.exit id,_,σ,k=>k.exit id σ|.ret,_,σ,k=>k.ret σ|_,_,_,_=>none
def a02{U:Uni}:(i:Nat)->(ps:O (PK U.C))->Args U ps->U.St|i,[],_=>⟨[],[],i⟩|i,.v c::ps,(x,xs)=>let σ:=a02 (i+1) ps xs;⟨(i,inj c x)::σ.sl,σ.me,σ.nx⟩|i,.ls c::ps,(x,xs)=>let σ:=a02 (i+1) ps xs;⟨(i,.list c x)::σ.sl,σ.me,σ.nx⟩|i,.ow e c::ps,(x,xs)=>let σ:=a02 (i+1) ps xs;⟨(i,.ref i)::σ.sl,(i,.sl e c x)::σ.me,σ.nx⟩|i,.rp _ c::ps,(x,xs)=>let σ:=a02 (i+1) ps xs;⟨(i,.rp (inj c x))::σ.sl,σ.me,σ.nx⟩|i,.io t c::ps,(x,xs)=>let σ:=a02 (i+1) ps xs;⟨(i,.ref i)::σ.sl,(i,.box t (inj c x))::σ.me,σ.nx⟩|i,.im t c m::ps,(x,xs)=>let σ:=a02 (i+1) ps xs;⟨(i,.ref i)::σ.sl,(i,.box t (.st c (b8h m (U.flds c x))))::σ.me,σ.nx⟩|i,.po _ _ e c::ps,(x,xs)=>let σ:=a02 (i+1) ps xs;⟨σ.sl,(i,.sl e c x)::σ.me,σ.nx⟩|i,.so e c::ps,(x,xs)=>let σ:=a02 (i+1) ps xs;⟨(i,.ref i)::σ.sl,(i,.sl e c x)::σ.me,σ.nx⟩|i,.cl f cs::ps,(x,xs)=>let σ:=a02 (i+1) ps xs;⟨(i,.clo f (f3e cs x))::σ.sl,σ.me,σ.nx⟩|i,.bn f c::ps,(x,xs)=>let σ:=a02 (i+1) ps xs;⟨(i,.bnd f (inj c x))::σ.sl,σ.me,σ.nx⟩|i,.km g t::ps,(x,xs)=>let σ:=a02 (i+1) ps xs;⟨(i,.km g t x)::σ.sl,σ.me,σ.nx⟩|i,.vl g t c::ps,(x,xs)=>let σ:=a02 (i+1) ps xs;⟨(i,.vl g t c x)::σ.sl,σ.me,σ.nx⟩
def d0u{α β:Type}(x:A3 α)(y:A3 β):A3 (α×β):=match x with|some a=>(match y with|some b=>some (a,b)|none=>none)|none=>none
def f3d{U:Uni}(σ:U.St):ResultVar->A3 U.AV|.tmp t=>some (σ.slot t)|.cell t ty=>match σ.slot t with|.ref id=>(match σ.mem id with|.box _ b=>(match b33 P ty (stF σ b)with|true=>some (stF σ b)|false=>none)|_=>none)|_=>none
def g5q{U:Uni}(σ:U.St):O ResultVar->O (Nat×U.MC)|[]=>[]|.cell t _::r=>(match σ.slot t with|.ref id=>(match σ.mem id with|.box _ (.st _ fs)=>g0t σ fs++g5q σ r|_=>g5q σ r)|_=>g5q σ r)|_::r=>g5q σ r
def resL{U:Uni}(σ:U.St)(us:O Nat)(c:U.C)(a:U.AV):A3 (O (U.T c)×O Nat):=match a with|.list _ l=>(match b8i c l with|some l=>some (l,us)|none=>none)|.nils=>some ([],us)|.ref id=>(match us.any (Nat.beq id),σ.mem id with|false,.sl _ _ l=>(match b8i c l with|some l=>some (l,id::us)|none=>none)|_,.fz _ l=>(match b8i c l with|some l=>some (l,us)|none=>none)|_,_=>none)|_=>none
def resO{U:Uni}(σ:U.St)(us:O Nat)(e:TypeId)(c:U.C)(a:U.AV):A3 (O (U.T c)×O Nat):=match a with|.nils=>some ([],us)|.ref id=>(match us.any (Nat.beq id),σ.mem id with|false,.sl e' _ l=>(match Nat.beq e e',b8i c l with|true,some l=>some (l,id::us)|_,_=>none)|_,_=>none)|_=>none
def resP{U:Uni}(σ:U.St)(us:O Nat)(t:TypeId)(c:U.C)(a:U.AV):A3 (A3 (U.T c)×O Nat):=match a with|.nilp=>some (none,us)|.ref id=>(match us.any (Nat.beq id),σ.mem id with|false,.box t' b=>(match Nat.beq t t',prj c b with|true,some x=>some (some x,id::us)|_,_=>none)|_,_=>none)|_=>none
def e51{U:Uni}(σ:U.St):(b7a:O Nat)->(rs:O (RK U.C))->O ResultVar->A3 (Ress U rs)
 |_,[],[]=>some ()|us,.v c::rs,r::l=>match f3d P σ r with|some a=>d0u (prj c a) (e51 σ us rs l)|none=>none
 |us,.ls c::rs,r::l=>match f3d P σ r with|some a=>(match resL σ us c a with|some (x,us')=>d0u (some x) (e51 σ us' rs l)|none=>none)|none=>none
 |us,.ow e c::rs,r::l=>match f3d P σ r with|some a=>(match resO σ us e c a with|some (x,us')=>d0u (some x) (e51 σ us' rs l)|none=>none)|none=>none
 |us,.bo t c::rs,r::l=>match f3d P σ r with|some a=>(match resP σ us t c a with|some (x,us')=>d0u (some x) (e51 σ us' rs l)|none=>none)|none=>none
 |_,_,_=>none
def e6y{U:Uni}(σ:U.St)(b f:Nat):A3 Nat:=match σ.mem b with|.box _ (.st _ fs)=>c71 fs f|_=>none
def ioP{U:Uni}(σ:U.St):Nat->O (PK U.C)->O Nat|_,[]=>[]|i,.io _ _::ps=>i::ioP σ (i+1) ps|i,.im _ _ _::ps=>i::ioP σ (i+1) ps|i,.so _ _::ps=>i::ioP σ (i+1) ps|i,.po b f _ _::ps=>(match e6y σ b f with|some j=>j|none=>0)::ioP σ (i+1) ps|i,_::ps=>ioP σ (i+1) ps
def c7d{U:Uni}(σ:U.St):(i:Nat)->(ps:O (PK U.C))->A3 (Outs U ps)
 |_,[]=>some ()|i,.io t c::ps=>match σ.mem i with|.box t' b=>(match Nat.beq t t' with|true=>d0u (prj c b) (c7d σ (i+1) ps)|false=>none)|_=>none
 |i,.im t c m::ps=>match σ.mem i with|.box t' (.st c' fs)=>(match Nat.beq t t'&&eqC c c' with|true=>d0u (U.mkv c (d0v m fs)) (c7d σ (i+1) ps)|false=>none)|_=>none
 |i,.po b f e c::ps=>match e6y σ b f with|some j=>(match σ.mem j with|.sl e' _ l=>(match Nat.beq e e' with|true=>d0u (b8i c l) (c7d σ (i+1) ps)|false=>none)|_=>none)|none=>none
 |i,.so e c::ps=>match σ.mem i with|.sl e' _ l=>(match Nat.beq e e' with|true=>d0u (b8i c l) (c7d σ (i+1) ps)|false=>none)|_=>none
 |i,.cl _ _::ps=>c7d σ (i+1) ps|i,.bn _ _::ps=>c7d σ (i+1) ps|i,.km _ _::ps=>c7d σ (i+1) ps|i,.vl _ _ _::ps=>c7d σ (i+1) ps|i,.v _::ps=>c7d σ (i+1) ps|i,.ls _::ps=>c7d σ (i+1) ps|i,.ow _ _::ps=>c7d σ (i+1) ps|i,.rp _ _::ps=>c7d σ (i+1) ps
def h2z{U:Uni}(s:Sig U)(rv:O ResultVar)(σ:U.St):A3 (Ress U s.rs×Outs U s.ps):=match c6j (ioP σ 0 s.ps)with
 |true=>match e51 P σ (ioP σ 0 s.ps) s.rs rv with
   |some r=>match c7d σ 0 s.ps with|some o=>some (r,o)|none=>none
   |none=>none
 |false=>none
def e61{U:Uni}(s:Sig U)(rv:O ResultVar)(σ:U.St):A3 (Ress U s.rs×Outs U s.ps):=h2z P s rv (σ.app none .unk (g5q σ rv))
def ioI{C:Type}:Nat->O (PK C)->O Nat|_,[]=>[]|i,.io _ _::ps=>i::ioI (i+1) ps|i,.im _ _ _::ps=>i::ioI (i+1) ps|i,.so _ _::ps=>i::ioI (i+1) ps|i,_::ps=>ioI (i+1) ps
def unK{s:Sig U}{B:Type}(un:Ress U s.rs×Outs U s.ps->B)(x:A3 (Ress U s.rs×Outs U s.ps)):A3 B:=match x with|some p=>some (un p)|none=>none
def c5v(s:Sig U){B:Type}(un:Ress U s.rs×Outs U s.ps->B)(fn:Func)(an:Ann U.C)(x:Args U s.ps):A3 B:=match fn.body with|some c=>den P Φ (ioI 0 s.ps) c an (a02 0 s.ps x) ⟨λσ=>unK un (e61 P s fn.results.toList σ),λ_ _=>none,λσ=>unK un (e61 P s fn.results.toList σ)⟩|none=>none
end
def y7{α β:Type}(p:α->β->Prop):O α->O β->Prop|[],[]=>True|a::as,b::bs=>p a b/\y7 p as bs|_,_=>False
def y7.mono{α β:Type}{p q:α->β->Prop}(h:∀a b,p a b->q a b):∀{l:O α}{r:O β},y7 p l r->y7 q l r|[],[],_=>trivial|_::_,_::_,hh=>⟨h _ _ hh.1,y7.mono h hh.2⟩|[],_::_,hh=>hh.elim|_::_,[],hh=>hh.elim
def y7.length{α β:Type}{p:α->β->Prop}:∀{l:O α}{r:O β},y7 p l r->l.length=r.length|[],[],_=>rfl|_::_,_::_,hh=>by simp[y7.length hh.2]|[],_::_,hh=>hh.elim|_::_,[],hh=>hh.elim
def y7.get{α β:Type}{p:α->β->Prop}:∀{l:O α}{r:O β},y7 p l r->∀{i:Nat}{a:α},l[i]?=some a->∃b,r[i]?=some b/\p a b|[],[],_,i,a,ha=>by simp_all|x::_,y::_,hh,0,a,ha=>by simp at ha;subst ha;exact⟨y,rfl,hh.1⟩|_::_,_::_,hh,i+1,a,ha=>by simpa using y7.get hh.2 (by simp_all)|[],_::_,hh,_,_,_=>hh.elim|_::_,[],hh,_,_,_=>hh.elim
def y7.getR{α β:Type}{p:α->β->Prop}:∀{l:O α}{r:O β},y7 p l r->∀{i:Nat}{b:β},r[i]?=some b->∃a,l[i]?=some a/\p a b|[],[],_,i,a,ha=>by simp_all|x::_,y::_,hh,0,a,ha=>by simp at ha;subst ha;exact⟨x,rfl,hh.1⟩|_::_,_::_,hh,i+1,a,ha=>by simpa using y7.getR hh.2 (by simp_all)|[],_::_,hh,_,_,_=>hh.elim|_::_,[],hh,_,_,_=>hh.elim
def y7.of_get{α β:Type}{p:α->β->Prop}:∀{l:O α}{r:O β},l.length=r.length->(∀(i:Nat)(a:α)(b:β),l[i]?=some a->r[i]?=some b->p a b)->y7 p l r|[],[],_,_=>trivial|x::l,y::r,hl,h=>⟨h 0 x y rfl rfl,y7.of_get (by simp_all) λi a b ha hb=>h (i+1) a b (by grind) (by simp_all)⟩|[],_::_,hl,_=>by simp_all|_::_,[],hl,_=>by simp_all
def AEq{U:Uni}(a b:U.AV):Prop:=a=b\/(a=.nils/\∃c,b=.list c [])
structure UOK(U:Uni):Prop where
 lay:∀c x,(U.flds c x).map a07=U.lay c
 kind:∀c x,(U.flds c x).all c06=true
 sum:∀c,U.n c=((U.lay c).map osz).sum
 sc:∀c,U.ag c=false->U.lay c=[none]mkl:∀c as y,U.mkv c as=some y->y7 AEq as (U.flds c y)flat:∀c x,U.flat c=true->(U.flds c x).all h08=true
 arr:∀c x,U.isA c=true->U.flds c x=(U.al c x).map (inj (U.ae c))/\(U.al c x).length=U.an c
 ars:∀c x i y,U.isA c=true->U.al c (U.ast c x i y)=a8h (U.al c x) i y
 gt:∀c x i y,U.isA c=true->c7 (U.al c x) i=some y->U.gt c x i=y
 by8:∀c x,U.b8 c=true->U.flds c x=[.int .u8 (U.t8 c x)]tabK:∀w w',U.tab w->(∀b,U.tb b->w'.heap[b]?=w.heap[b]?)->U.tab w'
section
variable {U:Uni}
def a0z(R:∀c,TyR (U.T c))(G:Nat->Prop)(w:World):U.AV->O A5->Prop|.bool b,cs=>cs=[.bool b]|.int k n,cs=>cs=[.int k n]|.str s,cs=>cs=[.string s]|.val c x,cs=>(R c).rep G w cs x|.list c l,cs=>∃v,cs=[v]/\k9 (R c) G w v l|.nils,cs=>cs=[.slice none 0 0]|_,_=>False
def a0z.ext{R:∀c,TyR (U.T c)}{G:Nat->Prop}{w w':World}{a:U.AV}{cs:O A5}(h:a0z R G w a cs)(hE:Ext G w w'):a0z R G w' a cs:=by cases a<;>simp [a0z]at*<;>first|omega|exact(R _).ext h hE|(let ⟨v,hv,hr⟩:=h;exact⟨v,hv,hr.ext hE⟩)
def a0z.weaken{R:∀c,TyR (U.T c)}{G G':Nat->Prop}{w:World}{a:U.AV}{cs:O A5}(h:a0z R G w a cs)(hG:∀b,b<w.heap.size->G' b->G b):a0z R G' w a cs:=by cases a<;>simp [a0z]at*<;>first|omega|exact(R _).weaken h hG|(let ⟨v,hv,hr⟩:=h;exact⟨v,hv,hr.weaken hG⟩)
def e8(R:∀c,TyR (U.T c))(G:Nat->Prop)(w:World):U.AV->O A5->Prop|.bool b,cs=>cs=[.bool b]|.int k n,cs=>cs=[.int k n]|.str s,cs=>cs=[.string s]|.val c x,cs=>(R c).rep G w cs x|.list c l,cs=>∃v,cs=[v]/\k9 (R c) G w v l|.nils,cs=>cs=[.slice none 0 0]|.rp a,cs=>∃ad cs',cs=[.pointer (some ad)]/\ad.block<w.heap.size/\¬G ad.block/\CA w ad cs'/\a0z R G w a cs'|.nilp,cs=>cs=[.pointer none]|_,_=>False
def e8.of0{R:∀c,TyR (U.T c)}{G:Nat->Prop}{w:World}{a:U.AV}{cs:O A5}(h:a0z R G w a cs):e8 R G w a cs:=by cases a<;>first|exact h|exact h.elim
def e8.to0{R:∀c,TyR (U.T c)}{G:Nat->Prop}{w:World}{a:U.AV}{cs:O A5}(hk:d3q a=true)(h:e8 R G w a cs):a0z R G w a cs:=by cases a<;>first|exact h|(cases hk)
def e8.ext{R:∀c,TyR (U.T c)}{G:Nat->Prop}{w w':World}{a:U.AV}{cs:O A5}(h:e8 R G w a cs)(hE:Ext G w w'):e8 R G w' a cs:=by cases a<;>simp only[e8]at*<;>first|omega|exact(R _).ext h hE|(let ⟨v,hv,hr⟩:=h;exact⟨v,hv,hr.ext hE⟩)|(let ⟨ad,cs',hc,hb,hg,hca,hr⟩:=h;exact⟨ad,cs',hc,Nat.lt_of_lt_of_le hb hE.size,hg,hca.of_block (hE.block _ hb hg),hr.ext hE⟩)
def e8.weaken{R:∀c,TyR (U.T c)}{G G':Nat->Prop}{w:World}{a:U.AV}{cs:O A5}(h:e8 R G w a cs)(hG:∀b,b<w.heap.size->G' b->G b):e8 R G' w a cs:=by cases a<;>simp only[e8]at*<;>first|omega|exact(R _).weaken h hG|(let ⟨v,hv,hr⟩:=h;exact⟨v,hv,hr.weaken hG⟩)|(let ⟨ad,cs',hc,hb,hg,hca,hr⟩:=h;exact⟨ad,cs',hc,hb,λhh=>by simp_all,hca,hr.weaken hG⟩)
def RdS(R:∀c,TyR (U.T c))(c:U.C):TyR (U.T c):=⟨U.n c,λG w cs x=>cs.length=U.n c/\∃css:O (O A5),cs=css.flatten/\y7 (e8 R G w) (U.flds c x) css,λh=>h.1,λ⟨hl,css,hc,h⟩hE=>⟨hl,css,hc,h.mono λ_ _ hh=>hh.ext hE⟩,λ⟨hl,css,hc,h⟩hG=>⟨hl,css,hc,h.mono λ_ _ hh=>hh.weaken hG⟩⟩
def Rd:Nat->∀c,TyR (U.T c)|0=>λc=>⟨U.n c,λ_ _ _ _=>False,λh=>h.elim,λh _=>h,λh _=>h⟩|d+1=>RdS (Rd d)
def Rp(c:U.C):TyR (U.T c):=⟨U.n c,λG w cs x=>∃d,(Rd d c).rep G w cs x,λ⟨d,h⟩=>by cases d with|zero=>exact False.elim h|succ d=>exact h.1,λ⟨d,h⟩hE=>⟨d,(Rd d c).ext h hE⟩,λ⟨d,h⟩hG=>⟨d,(Rd d c).weaken h hG⟩⟩
def g6m(d:Nat)(c:U.C):(Rd d c).n=U.n c:=by cases d<;>rfl
def Rp_n(c:U.C):(Rp c).n=U.n c:=rfl
def k9.monoR{α:Type}{R R':TyR α}{G:Nat->Prop}{w:World}{v:A5}{l:O α}(hn:R.n=R'.n)(hr:∀cs x,R.rep G w cs x->R'.rep G w cs x)(h:k9 R G w v l):k9 R' G w v l:=by
 rcases h with h|⟨a,cap,hv,hc,hm,hi⟩;.exact .inl h
 .refine .inr ⟨a,cap,hv,hc,hm,λi x hx=>?_⟩;let ⟨cs,h1,h2⟩:=hi i x hx;exact⟨cs,hr _ _ h1,by grind⟩
def a0z.monoR{R R':∀c,TyR (U.T c)}{G:Nat->Prop}{w:World}(hn:∀c,(R c).n=(R' c).n)(hr:∀c cs x,(R c).rep G w cs x->(R' c).rep G w cs x){a:U.AV}{cs:O A5}(h:a0z R G w a cs):a0z R' G w a cs:=by cases a<;>simp [a0z]at*<;>first|omega|simp_all|(let ⟨v,hv,h⟩:=h;exact⟨v,hv,k9.monoR (hn _) (hr _) h⟩)
def e8.monoR{R R':∀c,TyR (U.T c)}{G:Nat->Prop}{w:World}(hn:∀c,(R c).n=(R' c).n)(hr0:∀c cs x,(R c).rep G w cs x->(R' c).rep G w cs x){a:U.AV}{cs:O A5}(h:e8 R G w a cs):e8 R' G w a cs:=by cases a<;>simp [e8]at*<;>first|omega|exact hr0 _ _ _ h|(let ⟨v,hv,h⟩:=h;exact⟨v,hv,k9.monoR (hn _) (hr0 _) h⟩)|(let ⟨ad,cs',hc,hb,hg,hca,hr⟩:=h;exact⟨ad,cs',hc,hb,hg,hca,hr.monoR hn hr0⟩)
def f04{G:Nat->Prop}{w:World}:∀(d:Nat)(c:U.C)(cs:O A5)(x:U.T c),(Rd d c).rep G w cs x->(Rd (d+1) c).rep G w cs x|0,_,_,_,h=>False.elim h|d+1,c,cs,x,⟨hl,css,hc,h⟩=>⟨hl,css,hc,h.mono λ_ _ hh=>e8.monoR (by simp_all[g6m]) (λc cs x=>f04 d c cs x) hh⟩
def g5r{G:Nat->Prop}{w:World}{d d':Nat}(hd:d<=d'){c:U.C}{cs:O A5}{x:U.T c}(h:(Rd d c).rep G w cs x):(Rd d' c).rep G w cs x:=by induction hd<;>simp_all[f04]
def k9.bound{G:Nat->Prop}{w:World}{c:U.C}{v:A5}{l:O (U.T c)}(h:k9 (Rp c) G w v l):∃d,k9 (Rd d c) G w v l:=by
 rcases h with h|⟨a,cap,hv,hc,hm,hi⟩;.exact⟨0,.inl h⟩
 .have key:∀n,∃d,∀i x,i<n->l[i]?=some x->∃cs,(Rd d c).rep G w cs x/\a.block<w.heap.size/\¬G a.block/\CA w (a.add (i*(Rp c).n)) cs:=by intro n;induction n with|zero=>simp_all|succ n ih=>let ⟨d,hd⟩:=ih;cases hx:l[n]?with
     |none=>exact⟨d,λi x hi2 hx2=>by
       rcases Nat.lt_succ_iff_lt_or_eq.1 hi2 with h|h;.exact hd i x h hx2
       grind⟩|some y=>let ⟨cs,⟨d',hr⟩,h2⟩:=hi n y hx;exact⟨max d d',λi x hi2 hx2=>by
        rcases Nat.lt_succ_iff_lt_or_eq.1 hi2 with h|h;.let ⟨cs,h1,h2⟩:=hd i x h hx2;exact⟨cs,g5r (by omega) h1,h2⟩
        .subst h;rw[hx]at hx2;cases hx2;exact⟨cs,g5r (by omega) hr,h2⟩⟩
  obtain⟨d,hd⟩:=key _;exact⟨d,.inr ⟨a,cap,hv,hc,hm,λi x hx=>by rw[g6m];exact hd i x (qD.1 hx).1 hx⟩⟩
def a0z.bound{G:Nat->Prop}{w:World}{a:U.AV}{cs:O A5}(h:a0z Rp G w a cs):∃d,a0z (Rd d) G w a cs:=by cases a<;>simp [a0z]at*<;>first|simp_all|exact h|(let ⟨v,hv,h⟩:=h;let ⟨d,h⟩:=k9.bound h;grind)
def e8.bound{G:Nat->Prop}{w:World}{a:U.AV}{cs:O A5}(h:e8 Rp G w a cs):∃d,e8 (Rd d) G w a cs:=by cases a<;>simp [e8]at*<;>first|exact⟨0,h⟩|exact h|(let ⟨v,hv,h⟩:=h;let ⟨d,h⟩:=k9.bound h;grind)|(let ⟨ad,cs',hc,hb,hg,hca,hr⟩:=h;let ⟨d,hr⟩:=hr.bound;grind)
def e8.up{G:Nat->Prop}{w:World}{d d':Nat}(hd:d<=d'){a:U.AV}{cs:O A5}(h:e8 (Rd d) G w a cs):e8 (Rd d') G w a cs:=e8.monoR (by simp_all[g6m]) (λc cs x h=>g5r hd h) h
def y7.bound{G:Nat->Prop}{w:World}:∀{as:O U.AV}{css:O (O A5)},y7 (e8 Rp G w) as css->∃d,y7 (e8 (Rd d) G w) as css|[],[],_=>⟨0,trivial⟩|a::as,c::cs,h=>by let ⟨d,h1⟩:=e8.bound h.1;let ⟨d',h2⟩:=y7.bound h.2;exact⟨max d d',h1.up (by omega),h2.mono λ_ _ hh=>hh.up (by omega)⟩|[],_::_,hh=>hh.elim|_::_,[],hh=>hh.elim
def a91{G:Nat->Prop}{w:World}{c:U.C}{cs:O A5}{x:U.T c}:(Rp c).rep G w cs x↔cs.length=U.n c/\∃css,cs=css.flatten/\y7 (e8 Rp G w) (U.flds c x) css:=by
 constructor;.rintro⟨d,h⟩;cases d with|zero=>exact False.elim h|succ d=>let ⟨hl,css,hc,h⟩:=h;exact⟨hl,css,hc,h.mono λ_ _ hh=>e8.monoR (R':=Rp) (λc=>g6m d c) (λc cs x h=>show∃d,_ from⟨d,h⟩) hh⟩
 .rintro⟨hl,css,hc,h⟩;let ⟨d,h⟩:=y7.bound h;exact⟨d+1,hl,css,hc,h⟩
def c5g:A5->A3 Addr|.pointer (some a)=>some a|.slice (some a) _ _=>some a|_=>none
def b3g:U.C->O PE->Nat|_,[]=>0|c,.f n::p=>off c n+(match(U.lay c)[n]?with|some (some c')=>b3g c' p|_=>0)|c,.i n::p=>n.toNat*U.n (U.ae c)+b3g (U.ae c) p
def d2l(c:U.C):O PE->Nat|.i n::p=>n.toNat*U.n c+b3g c p|p=>b3g c p
def okV:U.C->O PE->Prop
 |_,[]=>True|c,.f n::p=>match(U.lay c)[n]?with|some (some c')=>okV c' p|_=>True
 |c,.i n::p=>0<=n/\n<(U.an c:Int)/\okV (U.ae c) p
def okP(c:U.C):O PE->Prop|.i _::p=>okV c p|p=>okV c p
structure Cx where
 Z:Nat->Prop
 π:Nat->A5
 us:Nat->Prop
 w:World
def Cx.G(X:Cx):Nat->Prop:=λb=>¬X.Z b
def b92(l:O (Int×Int)):Obj:=.map (l.zipIdx.map λq=>({key:=.int .i64 q.1.1,val:=.int .i64 q.1.2,born:=q.2}:MapEntry)).toArray l.length
def b79(X:Cx):U.AV->A5->Prop|.unk,_=>True|.undef,v=>v=undef|.nils,v=>v=.slice none 0 0|.nilp,v=>v=.pointer none|.bool b,v=>v=.bool b|.int k n,v=>v=.int k n|.str s,v=>v=.string s|.val c x,v=>∃cs:O A5,v=.agg cs.toArray/\(Rp c).rep X.G X.w cs x|.list c l,v=>k9 (Rp c) X.G X.w v l|.rp a,v=>∃ad cs,v=.pointer (some ad)/\ad.block<X.w.heap.size/\¬X.G ad.block/\CA X.w ad cs/\e8 Rp X.G X.w a cs|.ref id,v=>X.us id/\v=X.π id/\v.oneCell'=true|.fref id c p,v=>X.us id/\∃a,c5g (X.π id)=some a/\okP c p/\v=.pointer (some (a.add (d2l c p)))|.clo f as,v=>as=[]/\v=.func (.func f) #[] #[]|.tup _,_=>False|.st _ _,_=>False|.vw id c lo n,v=>X.us id/\d0z v (X.π id) (U.n c) lo n|.bnd _ _,_=>False|.ifc _ _,_=>False|.km _ _ _,_=>False|.vl _ _ _ _,_=>False|.mi,v=>∃b mb s c,v=.pointer (some ⟨b,0,none⟩)/\(b<X.w.heap.size/\¬X.G b)/\(mb<X.w.heap.size/\¬X.G mb)/\X.w.heap[b]?=some (.mapIter (some mb) s #[] c)/\X.w.heap[mb]?=some (b92 [])|.va id c p n,v=>X.us id/\∃a,c5g (X.π id)=some a/\okP c p/\v=.slice (some (a.add (d2l c p))) n n
def a1p(X:Cx):U.AV->A5->Prop|.st c as,v=>∃css:O (O A5),v=.agg css.flatten.toArray/\as.map a07=U.lay c/\as.all a03=true/\y7 (λa cs=>∃u:A5,u.cells.toList=cs/\b79 X a u) as css|a,v=>b79 X a v
def AVR(X:Cx):U.AV->A5->Prop|.clo f as,v=>∃vs:O A5,v=.func (.func f) #[] vs.toArray/\y7 (a1p X) as vs|.tup as,v=>∃vs:O A5,v=.tuple vs.toArray/\y7 (a1p X) as vs|.bnd f a,v=>∃u:A5,v=.func (.func f) #[u] #[]/\a1p X a u|.ifc t a,v=>∃u:A5,v=.iface t u/\a1p X a u|.km g t l,v=>∃bb mb,v=.func (.func g) #[] #[.pointer (some ⟨bb,0,none⟩)]/\(bb<X.w.heap.size/\¬X.G bb)/\(mb<X.w.heap.size/\¬X.G mb)/\Mb X.w bb t [.map (some mb)]/\(l.map (·.1)).Nodup/\X.w.heap[mb]?=some (b92 l)|.vl g t c l,v=>∃bb sv,v=.func (.func g) #[] #[.pointer (some ⟨bb,0,none⟩)]/\(bb<X.w.heap.size/\¬X.G bb)/\Mb X.w bb t [sv]/\k9 (Rp c) X.G X.w sv l|a,v=>a1p X a v
abbrev Raw(n:Nat):={l:O A5//l.length=n/\∀u∈l,u.oneCell'=true}
def MR(X:Cx):U.MC->A5->Prop|.never,_|.dead,_=>True|.box t a,v=>∃b u,v=.pointer (some ⟨b,0,none⟩)/\Mb X.w b t u.cells.toList/\a1p X a u|.sl e c l,v=>∃css:O (Raw (U.n c)),Own 0 e (U.n c) Subtype.val X.w v css/\y7 (λ(r:Raw (U.n c))x=>(Rp c).rep X.G X.w r.1 x) css l|.fz c l,v=>k9 (Rp c) X.G X.w v l|.it s p,v=>∃b,v=.pointer (some ⟨b,0,none⟩)/\0<=p/\X.w.heap[b]?=some (.stringIter s p.toNat)|.mp l,v=>∃b,v=.map (some b)/\(l.map (·.1)).Nodup/\X.w.heap[b]?=some (b92 l)
def MB:U.MC->A5->Nat->Prop|.box _ _,v,b|.sl _ _ _,v,b|.it _ _,v,b|.mp _,v,b=>hdV v=some b|_,_,_=>False
structure Cx.Le(X X':Cx):Prop where
 z:∀b,X.Z b->X'.Z b
 e:Ext X.G X.w X'.w
 u:∀id,X.us id->X'.us id/\X'.π id=X.π id
def e8.le{X X':Cx}(h:X.Le X'){a:U.AV}{cs:O A5}(ha:e8 Rp X.G X.w a cs):e8 Rp X'.G X'.w a cs:=(ha.ext h.e).weaken λb _ hb hz=>hb (h.z b hz)
def k9.le{X X':Cx}(h:X.Le X'){c:U.C}{v:A5}{l:O (U.T c)}(ha:k9 (Rp c) X.G X.w v l):k9 (Rp c) X'.G X'.w v l:=(ha.ext h.e).weaken λb _ hb hz=>hb (h.z b hz)
def c42{X X':Cx}(h:X.Le X'){c:U.C}{cs:O A5}{x:U.T c}(ha:(Rp c).rep X.G X.w cs x):(Rp c).rep X'.G X'.w cs x:=(Rp c).weaken ((Rp c).ext ha h.e) λb _ hb hz=>hb (h.z b hz)
def b79.le{X X':Cx}(h:X.Le X'){a:U.AV}{v:A5}(ha:b79 X a v):b79 X' a v:=by cases a<;>simp only[b79]at*<;>first|omega|(let ⟨cs,hv,hr⟩:=ha;exact⟨cs,hv,c42 h hr⟩)|exact k9.le h ha|(let ⟨ad,cs,hv,hb,hg,hc,hr⟩:=ha;exact⟨ad,cs,hv,Nat.lt_of_lt_of_le hb h.e.size,λhz=>hg (λhh=>hz (h.z _ hh)),hc.of_block (h.e.block _ hb hg),hr.le h⟩)|(let ⟨hu,hv⟩:=ha;exact⟨(h.u _ hu).1,by rw[(h.u _ hu).2];omega⟩)|(let ⟨b,mb,s,c,hv,⟨h1,h2⟩,⟨h3,h4⟩,h5,h6⟩:=ha;exact⟨b,mb,s,c,hv,⟨Nat.lt_of_lt_of_le h1 h.e.size,λhz=>h2 (λhh=>hz (h.z _ hh))⟩,⟨Nat.lt_of_lt_of_le h3 h.e.size,λhz=>h4 (λhh=>hz (h.z _ hh))⟩,(h.e.block _ h1 h2).trans h5,(h.e.block _ h3 h4).trans h6⟩)
def a1p.le{X X':Cx}(h:X.Le X'){a:U.AV}{v:A5}(ha:a1p X a v):a1p X' a v:=by
 cases a;case st c as=>let ⟨css,hv,hl,hp,hr⟩:=ha;exact⟨css,hv,hl,hp,hr.mono λ_ _⟨u,hu,hh⟩=>⟨u,hu,b79.le h hh⟩⟩
 all_goals simp [a1p]at ha⊢;exact b79.le h ha
def AVR.le{X X':Cx}(h:X.Le X'){a:U.AV}{v:A5}(ha:AVR X a v):AVR X' a v:=by cases a<;>simp only[AVR]at*<;>first|exact a1p.le h ha|(let ⟨vs,hv,hr⟩:=ha;exact⟨vs,hv,hr.mono λ_ _ hh=>hh.le h⟩)|(let ⟨u,hv,hr⟩:=ha;exact⟨u,hv,hr.le h⟩)|(let ⟨bb,mb,hv,⟨h1,h2⟩,⟨h3,h4⟩,h5,h6,h7⟩:=ha;exact⟨bb,mb,hv,⟨Nat.lt_of_lt_of_le h1 h.e.size,λhz=>h2 (λhh=>hz (h.z _ hh))⟩,⟨Nat.lt_of_lt_of_le h3 h.e.size,λhz=>h4 (λhh=>hz (h.z _ hh))⟩,(h.e.block _ h1 h2).trans h5,h6,(h.e.block _ h3 h4).trans h7⟩)|(let ⟨bb,sv,hv,⟨h1,h2⟩,h5,h6⟩:=ha;exact⟨bb,sv,hv,⟨Nat.lt_of_lt_of_le h1 h.e.size,λhz=>h2 (λhh=>hz (h.z _ hh))⟩,(h.e.block _ h1 h2).trans h5,k9.le h h6⟩)
def AVR.of1{X:Cx}{a:U.AV}{v:A5}(h:a1p X a v):AVR X a v:=by cases a<;>first|exact h|(obtain⟨rfl,hv⟩:=h;exact⟨[],hv,trivial⟩)|exact h.elim
def MR.le{X X':Cx}(h:X.Le X'){m:U.MC}{v:A5}(hm:MR X m v)(hb:∀b,MB m v b->b<X.w.heap.size->X'.w.heap[b]?=X.w.heap[b]?):MR X' m v:=by
 cases m<;>simp only[MR]at*;case box t a=>let ⟨b,u,hv,hM,ha⟩:=hm;subst hv;exact⟨b,u,rfl,(hb b rfl hM.lt).trans hM,ha.le h⟩
 case sl e c l=>
  let ⟨css,hO,hr⟩:=hm;refine⟨css,?_,hr.mono λ_ _ hh=>c42 h hh⟩;rcases hO with hO|⟨g,o,cap,cur,hv,hg,hh,r⟩;.exact .inl hO
  .subst hv;exact .inr ⟨g,o,cap,cur,rfl,hg,(hb g rfl (qN.1 hh).1).trans hh,r⟩
 case fz c l=>exact k9.le h hm
 case it s p=>let ⟨b,hv,h0,hh⟩:=hm;subst hv;exact⟨b,rfl,h0,(hb b rfl (qN.1 hh).1).trans hh⟩
 case mp l=>let ⟨b,hv,h0,hh⟩:=hm;subst hv;exact⟨b,rfl,h0,(hb b rfl (qN.1 hh).1).trans hh⟩
structure Env where
 w0:World
 G:Nat->Prop
 Z:Nat->Prop
 pin:Nat->Prop
 π0:Nat->A5
def b7a(σ:U.St)(id:Nat):Prop:=σ.mem id≠.never
def cx(Z:Nat->Prop)(π:Nat->A5)(σ:U.St)(w:World):Cx:=⟨Z,π,b7a σ,w⟩
structure Rel(E:Env)(Z:Nat->Prop)(π:Nat->A5)(σ:U.St)(ρ:Nat->A5)(w:World):Prop where
 slot:∀t,AVR (cx Z π σ w) (σ.slot t) (ρ t)mem:∀id,MR (cx Z π σ w) (σ.mem id) (π id)own:∀id b,MB (σ.mem id) (π id) b->¬Z b/\b<w.heap.size/\(E.G b\/E.w0.heap.size<=b)dist:∀id id' b,id≠id'->MB (σ.mem id) (π id) b->¬MB (σ.mem id') (π id') b
 zlt:∀b,Z b->b<w.heap.size
 zin:∀b,Z b->E.Z b\/E.G b\/E.w0.heap.size<=b
 zout:∀b,E.Z b->Z b
 ext:Ext E.G E.w0 w
 pin:∀id,E.pin id->b7a σ id/\π id=E.π0 id
 tab:U.tab E.w0/\∀b,U.tb b->b<E.w0.heap.size/\¬E.G b
def Rel.tabw(hU:UOK U){E:Env}{Z:Nat->Prop}{π:Nat->A5}{σ:U.St}{ρ:Nat->A5}{w:World}(h:Rel E Z π σ ρ w):U.tab w:=hU.tabK _ _ h.tab.1 λb hb=>h.ext.block b (h.tab.2 b hb).1 (h.tab.2 b hb).2
def d19{G G0:Nat->Prop}{w0 w w':World}(h:Ext G0 w0 w)(hE:Ext G w w')(hG:∀x,G x->G0 x\/w0.heap.size<=x):Ext G0 w0 w':=⟨hE.os.trans h.os,hE.tape.trans h.tape,hE.output.trans h.output,Nat.le_trans h.size hE.size,λi hi hg=>(hE.block i (Nat.lt_of_lt_of_le hi h.size) (λhx=>(hG i hx).elim hg (by omega))).trans (h.block i hi hg)⟩
def c7z{α:Type}(t:Nat):∀(l r:O (Nat×α)),lk t (l++r)=match lk t l with|some a=>some a|none=>lk t r
 |[],r=>rfl|(k,a)::l,r=>by show(bif Nat.beq k t then some a else lk t (l++r))=_;rw[c7z t l r];show _=match(bif Nat.beq k t then some a else lk t l)with|some a=>some a|none=>lk t r;grind
def b1x{α:Type}{t:Nat}:∀{l:O (Nat×α)}{a:α},lk t l=some a->(t,a)∈l|[],a,h=>by cases h|(k,b)::l,a,h=>by have h':(bif Nat.beq k t then some b else lk t l)=some a:=h;cases hk:Nat.beq k t with|true=>simp_all|false=>rw[hk]at h';exact qJ _ (b1x h')
def o8(σ:U.St)(d:A3 Tmp)(a:U.AV)(ws:O (Nat×U.MC))(id:Nat):(σ.app d a ws).mem id=match lk id ws with|some m=>m|none=>σ.mem id:=by
 have h:(σ.app d a ws).me=ws++σ.me:=by cases d<;>rfl
 unfold St.mem;rw[h,c7z];grind
def s9(σ:U.St)(d:A3 Tmp)(a:U.AV)(ws:O (Nat×U.MC))(t:Nat):(σ.app d a ws).slot t=if d=some t then a else σ.slot t:=by cases d with|none=>rfl|some d=>simp [St.slot,St.app,St.put,lk];cases hk:Nat.beq d t with|true=>simp_all|false=>simp_all[Nat.ne_of_beq_eq_false]
def c9j(ρ:Nat->A5)(d:A3 Tmp)(v:A5)(t:Nat):b20 ρ d v t=if d=some t then v else ρ t:=by cases d with|none=>rfl|some d=>simp [b20,upd,Option.some.injEq];grind
def Rel.next{E:Env}{Z:Nat->Prop}{π:Nat->A5}{σ:U.St}{ρ:Nat->A5}{w:World}(h:Rel E Z π σ ρ w){w':World}{Z':Nat->Prop}{π':Nat->A5}{ws:O (Nat×U.MC)}{d:A3 Tmp}{v:A5}{a:U.AV}(hE:Ext (λb=>∃id m,lk id ws=some m/\MB (σ.mem id) (π id) b) w w')(hZ:∀b,Z b->Z' b)(hZ':∀b,Z' b->Z b\/(w.heap.size<=b/\b<w'.heap.size)\/∃id m,lk id ws=some m/\MB (σ.mem id) (π id) b)(hπ:∀id,b7a σ id->π' id=π id)(hnn:∀id m,lk id ws=some m->m≠.never)(hm:∀id m,lk id ws=some m->MR (cx Z' π' (σ.app d a ws) w') m (π' id))(ho:∀id m b,lk id ws=some m->MB m (π' id) b->¬Z' b/\b<w'.heap.size/\(w.heap.size<=b\/∃id0 m0,lk id0 ws=some m0/\MB (σ.mem id0) (π id0) b))(hd:∀id id' m m' b,id≠id'->lk id ws=some m->lk id' ws=some m'->MB m (π' id) b->¬MB m' (π' id') b)(ha:AVR (cx Z' π' (σ.app d a ws) w') a v):Rel E Z' π' (σ.app d a ws) (b20 ρ d v) w':=by
 have hle:(cx Z π σ w).Le (cx Z' π' (σ.app d a ws) w'):=by refine⟨hZ,hE.mono λb⟨id,m,_,hb⟩hz=>(h.own id b hb).1 hz,λid hu=>⟨?_,hπ id hu⟩⟩;show(σ.app d a ws).mem id≠.never;rw[o8];cases hl:lk id ws with|none=>exact hu|some m=>exact hnn id m hl
 have hMBn:∀{id b},lk id ws=none->(MB (σ.mem id) (π' id) b↔MB (σ.mem id) (π id) b):=by
  intro id b hl;by_cases hu:b7a σ id;.rw[hπ id hu]
  .have:=Classical.not_not.1 hu;rw[this];exact Iff.rfl
 constructor
 .intro t;rw[s9,c9j];split;.omega
  .exact(h.slot t).le hle
 .intro id;rw[o8];cases hl:lk id ws with|some m=>exact hm id m hl|none=>
    by_cases hu:b7a σ id
    .rw[hπ id hu];refine MR.le hle (h.mem id) λb hb hlt=>hE.block b hlt ?_;rintro⟨id',m',hl',hb'⟩;have hne:id≠id':=λe=>by subst e;rw[hl]at hl';cases hl'
     exact h.dist id id' b hne hb hb'
    .have:=Classical.not_not.1 hu;rw[this];trivial
 .intro id b hb;rw[o8]at hb
  cases hl:lk id ws with|some m=>
    rw[hl]at hb;let ⟨h1,h2,h3⟩:=ho id m b hl hb;refine⟨h1,h2,?_⟩;rcases h3 with h3|⟨id0,m0,_,hb0⟩;.exact .inr (Nat.le_trans h.ext.size h3)
    .exact(h.own id0 b hb0).2.2|none=>
    rw[hl]at hb;have hb2:=(hMBn hl).1 hb;let ⟨h1,h2,h3⟩:=h.own id b hb2;refine⟨λhz=>?_,Nat.lt_of_lt_of_le h2 hE.size,h3⟩;rcases hZ' b hz with hz|hz|⟨id',m',hl',hb'⟩;.exact h1 hz
    .omega
    .have hne:id≠id':=λe=>by subst e;rw[hl]at hl';cases hl'
     exact h.dist id id' b hne hb2 hb'
 .intro id id' b hne hb hb';rw[o8]at hb hb';have cross:∀{i j m},i≠j->lk i ws=some m->lk j ws=none->MB m (π' i) b->MB (σ.mem j) (π j) b->False:=by
   intro i j m hij hi hj h1 h2;let ⟨_,_,h3⟩:=ho i m b hi h1;rcases h3 with h3|⟨id0,m0,hl0,hb0⟩;.have:=(h.own j b h2).2.1;omega
   .exact h.dist id0 j b (λe=>by subst e;rw[hj]at hl0;cases hl0) hb0 h2
  cases hl:lk id ws with
  |some m=>rw[hl]at hb;cases hl':lk id' ws with|some m'=>rw[hl']at hb';exact hd id id' m m' b hne hl hl' hb hb'|none=>rw[hl']at hb';exact cross hne hl hl' hb ((hMBn hl').1 hb')
  |none=>rw[hl]at hb;have hb2:=(hMBn hl).1 hb;cases hl':lk id' ws with|some m'=>rw[hl']at hb';exact cross (Ne.symm hne) hl' hl hb' hb2|none=>rw[hl']at hb';exact h.dist id id' b hne hb2 ((hMBn hl').1 hb')
 .intro b hz;rcases hZ' b hz with hz|hz|⟨id',m',hl',hb'⟩;.exact Nat.lt_of_lt_of_le (h.zlt b hz) hE.size
  .omega
  .exact Nat.lt_of_lt_of_le (h.own id' b hb').2.1 hE.size
 .intro b hz;rcases hZ' b hz with hz|hz|⟨id',m',hl',hb'⟩;.exact h.zin b hz
  .exact .inr (.inr (Nat.le_trans h.ext.size hz.1))
  .exact .inr (h.own id' b hb').2.2
 .intro b hz;exact hZ b (h.zout b hz)
 .exact d19 h.ext hE λb⟨id,m,_,hb⟩=>(h.own id b hb).2.2
 .intro id hp;let ⟨h1,h2⟩:=h.pin id hp;exact⟨(hle.u id h1).1,(hπ id h1).trans h2⟩
 .exact h.tab
end
section
variable {P:Program} {U:Uni} {E:Env} {Z:Nat -> Prop} {π:Nat -> A5} {σ:U.St} {ρ:Nat -> A5} {w:World}
def a48(P:Program)(E:Env)(σ:U.St)(ρ:Nat->A5)(w:World)(o:Oper)(a:U.AV)(ws:O (Nat×U.MC)):Prop:=a0k P o (ev ρ) w λu w'=>∃Z' π',Rel E Z' π' (σ.app o.dst a ws) (b20 ρ o.dst u) w'
def f3v{d:A3 Tmp}{a:U.AV}{id:Nat}:b7a (σ.app d a []) id↔b7a σ id:=by unfold b7a;rw[o8];exact Iff.rfl
def g9q{d:A3 Tmp}{a:U.AV}:cx Z π (σ.app d a []) w=cx Z π σ w:=by unfold cx;congr 1;funext id;simp_all[f3v]
def Rel.val(h:Rel E Z π σ ρ w){w':World}(hE:Ext noG w w'){d:A3 Tmp}{a:U.AV}{v:A5}(ha:AVR (cx Z π σ w) a v):Rel E Z π (σ.app d a []) (b20 ρ d v) w':=by refine h.next (hE.mono λ_ hh=>hh.elim) (λ_ hh=>hh) (λ_ hh=>.inl hh) (λ_ _=>rfl) (λid m hl=>by cases hl) (λid m hl=>by cases hl) (λid m b hl=>by cases hl) (λid id' m m' b _ hl=>by cases hl) ?_;rw[g9q];have hle:(cx Z π σ w).Le (cx Z π σ w'):=⟨λ_ hh=>hh,hE.of_no,λ_ hh=>⟨hh,rfl⟩⟩;exact AVR.le hle ha
def g8(h:Rel E Z π σ ρ w){o:Oper}{a:U.AV}{v:A5}(hy:YV P (ev ρ) w o v)(ha:AVR (cx Z π σ w) a v):a48 P E σ ρ w o a []:=by unfold a48 a0k;rw[hy];exact⟨Z,π,h.val (Ext.refl _ _) ha⟩
def e8m{X:Cx}{v:A5}{a:U.AV}(h:c3p v=some a):AVR X a v:=by unfold c3p at h;split at h<;>first|(cases h;rfl)|grind
def u6(h:Rel E Z π σ ρ w){x:Operand}{k:U.AV->U.Q}{m0 m:Nat}{v:U.AV}{ws:O (Nat×U.MC)}(hev:(rdO x k).Ev σ m0 m v ws):∃a m1,AVR (cx Z π σ w) a (ev ρ x)/\(k a).Ev σ m1 m v ws:=by cases x with
 |tmp t=>exact⟨_,_,h.slot t,hev.2⟩|const c=>simp [rdO]at hev;cases hc:(c3p c)with|none=>rw[hc]at hev;exact hev.elim|some a=>rw[hc]at hev;exact⟨a,_,e8m hc,hev⟩
 |global g=>exact hev.elim|func f=>exact⟨.clo f [],_,⟨[],rfl,trivial⟩,hev⟩
def c5c(h:Rel E Z π σ ρ w):∀{xs:O Operand}{k:O U.AV->U.Q}{m0 m:Nat}{v:U.AV}{ws:O (Nat×U.MC)},(g03 xs k).Ev σ m0 m v ws->∃as m1,y7 (AVR (cx Z π σ w)) as (xs.map (ev ρ))/\(k as).Ev σ m1 m v ws|[],k,m0,m,v,ws,hev=>⟨[],m0,trivial,hev⟩|x::r,k,m0,m,v,ws,hev=>by let ⟨a,m1,ha,hev⟩:=u6 h hev;let ⟨as,m2,has,hev⟩:=c5c h hev;exact⟨a::as,m2,⟨ha,has⟩,hev⟩
section
variable {d:A3 Tmp} {ty:TypeId} {ps:String} {af:Array Edge} {g:A3 (Nat×Bool)} {x y z:Operand} {m0 m:Nat} {a b c v:U.AV} {ws:O (Nat×U.MC)} {fr:Nat}
def d5a(h:Rel E Z π σ ρ w){op:Op}(hop:op=.move x\/op=.assign x)(hev:(rdO x λa=>(.done a []:U.Q)).Ev σ m0 m v ws):a48 P E σ ρ w ⟨d,op,ty,ps,af,g⟩ v ws:=by
 obtain⟨a,m1,ha,hm,rfl,rfl⟩:=u6 h hev;rcases hop with rfl|rfl;.exact g8 h (c08 rfl) ha
 .exact g8 h (b7t rfl) ha
def f7z(h:Rel E Z π σ ρ w){op:BinOp}{t t':TypeId}(hx:AVR (cx Z π σ w) a (ev ρ x))(hy:AVR (cx Z π σ w) b (ev ρ y))(hev:(h2n P op t a b).Ev σ m0 m v ws):a48 P E σ ρ w ⟨d,.binOp op t x y t',ty,ps,af,g⟩ v ws:=by
 cases a<;>try exact hev.elim
 case int k n=>
  cases b<;>try exact hev.elim
  rename_i k' n';cases op;case shl=>obtain⟨c,hc,hm,rfl,rfl⟩:=hev;exact g8 h (h4c hx hy (d65 hc).1 (d65 hc).2) rfl
  case shr=>obtain⟨c,hc,hm,rfl,rfl⟩:=hev;exact g8 h (h3d hx hy (d8z hc).1 (d8z hc).2) rfl
  all_goals have hev2:(match eqK k k' with|true=>binI _ k n n'|false=>(.fail:U.Q)).Ev σ m0 m v ws:=hev;unfold eqK at hev2;cases hk:decEq k k' with|isFalse hne=>rw[hk]at hev2;exact hev2.elim|isTrue he=>rw[hk]at hev2;subst he;first
      |exact hev2.elim|(obtain⟨hm,hv,hws⟩:=hev2;subst hv;subst hws;refine g8 h (?_:YV P (ev ρ) w _ (.int k _)) rfl;first|exact g98 hx hy rfl|exact g52 hx hy rfl|exact h3l hx hy rfl|exact h25 hx hy rfl|exact o_or hx hy rfl|exact h3g hx hy rfl)|(obtain⟨hm,hv,hws⟩:=hev2;subst hv;subst hws;refine g8 h (?_:YV P (ev ρ) w _ (.bool _)) rfl;first|exact g6f hx hy rfl|exact h3m hx hy rfl|exact h2t hx hy rfl|exact g54 hx hy rfl|exact h4d hx hy rfl|exact h32 hx hy rfl)
      | (obtain⟨c,hc,hm,hv,hws⟩:=hev2;subst hv;subst hws;split at hc;.grind
         .rename_i h0;first|exact g8 h (h45 hx hy h0 (qH hc)) rfl|exact g8 h (h3b hx hy h0 (qH hc)) rfl)
 case str s=>
  cases b<;>try exact hev.elim
  rename_i s';have hx:ev ρ x=.string s:=hx;have hy:ev ρ y=.string s':=hy;cases op<;>first|exact hev.elim|(obtain⟨c,hc,hm,rfl,rfl⟩:=hev;exact g8 h (g82 hx hy hc) rfl)|(obtain⟨hm,rfl,rfl⟩:=hev;exact g8 h (g9p hx hy rfl) rfl)|(obtain⟨hm,rfl,rfl⟩:=hev;exact g8 h (g7f hx hy rfl) rfl)|(obtain⟨hm,rfl,rfl⟩:=hev;refine g8 h (v:=.bool (Op.bytesLess s.toList s'.toList)) ?_ rfl;simp[YV,execOp,hx,hy,eqGuard,binOp,Op.stringOp])
 case bool p=>
  cases b<;>try exact hev.elim
  rename_i p';simp only[h2n]at hev;split at hev;.rename_i ht;cases op<;>first|exact hev.elim|(obtain⟨hm,rfl,rfl⟩:=hev;exact g8 h (g7c hx hy ht rfl) rfl)|(obtain⟨hm,rfl,rfl⟩:=hev;exact g8 h (g7v hx hy ht rfl) rfl)
  .exact hev.elim
def g5v(h:Rel E Z π σ ρ w){op:UnOp}{t:TypeId}(hx:AVR (cx Z π σ w) a (ev ρ x))(hev:(unQ op a:U.Q).Ev σ m0 m v ws):a48 P E σ ρ w ⟨d,.unOp op t x,ty,ps,af,g⟩ v ws:=by cases op<;>cases a<;>first|exact hev.elim|(obtain⟨hm,rfl,rfl⟩:=hev;first|exact g8 h (f0z hx rfl) rfl|exact g8 h (h27 hx rfl) rfl)
def b55{t:TypeId}{dsc:TypeDesc}(h:P.underlying t=some dsc):(underlying t).run P w=.ok dsc w:=by simp[underlying,program,Sem.run,h,pure,bind,Sem.bind]
def e9j(h:Rel E Z π σ ρ w){s t:TypeId}(hx:AVR (cx Z π σ w) a (ev ρ x))(hev:(g2y P s t a).Ev σ m0 m v ws):a48 P E σ ρ w ⟨d,.convert s t x,ty,ps,af,g⟩ v ws:=by
 unfold g2y at hev;split at hev;.rename_i k k' kk n hs ht;obtain⟨hm,rfl,rfl⟩:=hev;refine g8 h (g1u hx ?_) rfl;simp[convert,b55 hs,b55 ht,Conv.intToInt]
 .rename_i bb hs ht;obtain⟨hm,rfl,rfl⟩:=hev;refine g8 h (g1u hx ?_) rfl;simp[convert,b55 hs,b55 ht]
 .exact hev.elim
def d5k(h:Rel E Z π σ ρ w){i:Nat}(hx:AVR (cx Z π σ w) a (ev ρ x))(hev:(match a with|.tup as=>(match as[i]?with|some a=>(Q.done a []:U.Q)|none=>Q.fail)|_=>(Q.fail:U.Q)).Ev σ m0 m v ws):a48 P E σ ρ w ⟨d,.extract x i,ty,ps,af,g⟩ v ws:=by
 cases a<;>try exact hev.elim
 simp at hev;split at hev;.rename_i a1 ha1;obtain⟨hm,rfl,rfl⟩:=hev;let ⟨vs,hv,hr⟩:=hx;let ⟨u,hu,hru⟩:=hr.get ha1;refine g8 h (f1c hv ?_) (AVR.of1 hru);simp[Instr.extract,hu]
 .exact hev.elim
def f1x(h:Rel E Z π σ ρ w){e p q:Bool}(hx:ev ρ x=.bool e)(hy:ev ρ y=.bool p)(hz:ev ρ z=.bool q):a48 P E σ ρ w ⟨d,.pick x y z,ty,ps,af,g⟩ (.bool (bif e then p else q):U.AV) []:=by
 cases e;.exact g8 h (e2v hx hz) rfl
 .exact g8 h (e22 hx hy) rfl
def a8m{X:Cx}{a:U.AV}{v:A5}(hs:c1d a=true)(h:AVR X a v):a1p X a v:=by cases a<;>first|exact h|cases hs
def b6t{X:Cx}:∀{as:O U.AV}{vs:O A5},as.all c1d=true->y7 (AVR X) as vs->y7 (a1p X) as vs|[],[],_,_=>trivial|a::as,v::vs,hs,h=>by simp only[all_cons,qB]at hs;exact⟨a8m hs.1 h.1,b6t hs.2 h.2⟩|[],_::_,_,hh=>hh.elim|_::_,[],_,hh=>hh.elim
def d43(h:Rel E Z π σ ρ w){f:FuncId}{cs:Array Operand}(hev:(g03 cs.toList λas=>(match as.all c1d with|true=>(Q.done (.clo f as) []:U.Q)|false=>Q.fail)).Ev σ m0 m v ws):a48 P E σ ρ w ⟨d,.makeFunc (.func f) #[] cs,ty,ps,af,g⟩ v ws:=by
 let ⟨as,m1,has,hev⟩:=c5c h hev;split at hev;.rename_i hs;obtain⟨hm,rfl,rfl⟩:=hev;refine g8 h (e5f (by apply Array.ext';simp)) ⟨_,rfl,b6t hs has⟩
 .exact hev.elim
end
end
section
variable {P:Program} {U:Uni} {X:Cx}
def e0t(l:O A5):l.toArray.toList=l:=by simp
def a9t(hU:UOK U){G:Nat->Prop}{w:World}{a:U.AV}{cs:O A5}(h:e8 Rp G w a cs):cs.length=asz a:=by cases a<;>simp [e8]at h<;>first|(subst h;rfl)|exact(Rp _).len h|(let ⟨v,hv,_⟩:=h;subst hv;rfl)|(subst hc)|exact h.elim
def b0z(a:U.AV):osz (a07 a)=asz a:=by cases a<;>rfl
def a18{a:U.AV}{cs:O A5}(h:e8 Rp X.G X.w a cs):∃u,u.cells.toList=cs/\a1p X a u:=by cases a<;>simp only[e8]at h<;>first|(subst h;exact⟨_,rfl,rfl⟩)|(exact⟨.agg _,by simp[Value.cells],cs,rfl,h⟩)|(let ⟨v,hv,hr⟩:=h;refine⟨v,?_,hr⟩;let ⟨a,cap,hs,_⟩:=k9.shape hr;subst hs;subst hv;rfl)|(let ⟨ad,cs',hc,hb,hg,hca,hr⟩:=h;subst hc;exact⟨.pointer _,rfl,ad,cs',rfl,hb,hg,hca,.of0 hr⟩)|exact h.elim
def b1q{c:U.C}{l:O (U.T c)}{G:Nat->Prop}{w:World}{u:A5}(h:k9 (Rp c) G w u l):u.cells.toList=[u]:=by let ⟨a,cap,hs,_⟩:=k9.shape h;subst hs;rfl
def b4w{a:U.AV}{u:A5}(hk:c06 a=true\/a=.nils)(h:a1p X a u):e8 Rp X.G X.w a u.cells.toList:=by cases a<;>first
  |(rcases hk with hk|hk<;>cases hk;done)|(rfl)|(let ⟨cs,hu,hr⟩:=h;subst hu;simpa[e8,Value.cells]using hr)|(exact⟨u,b1q h,h⟩)|(subst h;simp[e8,Value.cells])
  | (let ⟨ad,cs,hu,hb,hg,hca,hr⟩:=h;subst hu;rcases hk with hk|hk;.exact⟨ad,cs,rfl,hb,hg,hca,hr.to0 hk⟩
     grind)
def c6a{a b:U.AV}{cs:O A5}(hab:AEq a b)(h:e8 Rp X.G X.w a cs):e8 Rp X.G X.w b cs:=by
 rcases hab with rfl|⟨rfl,c,rfl⟩;.omega
 .exact⟨_,h,k9.nil _ _ _⟩
def e36{a b:U.AV}{u:A5}(hab:AEq a b)(h:a1p X a u):a1p X b u:=by
 rcases hab with rfl|⟨rfl,c,rfl⟩;.omega
 .subst h;exact k9.nil _ _ _
def c4y(hU:UOK U){G:Nat->Prop}{w:World}:∀{as:O U.AV}{css:O (O A5)},y7 (e8 Rp G w) as css->css.flatten.length=((as.map a07).map osz).sum|[],[],_=>rfl|a::as,c::css,h=>by simp [flatten_cons,qL,map_cons,sum_cons,c4y hU h.2,b0z,a9t hU h.1]|[],_::_,hh=>hh.elim|_::_,[],hh=>hh.elim
def c96(hU:UOK U){G:Nat->Prop}{w:World}{c:U.C}{x:U.T c}{css:O (O A5)}(h:y7 (e8 Rp G w) (U.flds c x) css):(Rp c).rep G w css.flatten x:=a91.2 ⟨by rw[c4y hU h,hU.lay,<-hU.sum],css,rfl,h⟩
def c4d(hU:UOK U){G:Nat->Prop}{w:World}{c:U.C}{x:U.T c}{cs:O A5}(h:(Rp c).rep G w cs x){n:Nat}{b:U.AV}(hb:(U.flds c x)[n]?=some b):e8 Rp G w b ((cs.drop (off c n)).take (asz b))/\off c n+asz b<=cs.length:=by
 obtain⟨hl,css,rfl,hh⟩:=a91.1 h;have key:∀(as css:O _)(n:Nat)(b:U.AV),y7 (e8 Rp G w) as css->as[n]?=some b->e8 Rp G w b ((css.flatten.drop ((((as.map a07).take n).map osz).sum)).take (asz b))/\(((as.map a07).take n).map osz).sum+asz b<=css.flatten.length:=by intro as;induction as with|nil=>simp_all|cons a as ih=>intro css n b h hb;cases css with|nil=>exact h.elim|cons c css=>have hc:=a9t hU h.1;cases n with|zero=>simp at hb;subst hb;simp [take_zero,map_nil,sum_nil,drop_zero,flatten_cons,Nat.zero_add];rw[<-hc,take_left];exact⟨h.1,by simp⟩|succ n=>let ⟨h1,h2⟩:=ih css n b h.2 (by simpa using hb);simp only[map_cons,take_succ_cons,map_cons,sum_cons,flatten_cons,b0z];refine⟨?_,by rw[qL];omega⟩;rw[<-hc,drop_append,drop_eq_nil_of_le (by omega),nil_append];rw[show c.length+(((as.map a07).take n).map osz).sum-c.length=(((as.map a07).take n).map osz).sum by omega];omega
 have:=key _ _ n b hh hb;rw[hU.lay]at this;exact this
def e71(hU:UOK U){c:U.C}{x:U.T c}{n:Nat}{b:U.AV}(hb:(U.flds c x)[n]?=some b):(U.lay c)[n]?=some (a07 b):=by grind[UOK.lay]
def d9e(hU:UOK U){c:U.C}{x:U.T c}{cs:O A5}(h:(Rp c).rep X.G X.w cs x):∃u,u.cells.toList=cs/\a1p X (inj c x) u:=by unfold inj;cases ha:U.ag c with|true=>exact⟨.agg _,by simp[Value.cells],cs,rfl,h⟩|false=>obtain⟨hl,css,rfl,hh⟩:=a91.1 h;have hlay:=hU.lay c x;rw[hU.sc c ha]at hlay;cases hf:U.flds c x with|nil=>simp_all|cons a r=>rw[hf]at hh hlay;cases r with|cons _ _=>simp_all|nil=>cases css with|nil=>exact hh.elim|cons s css=>cases css with|nil=>let ⟨u,hu,hr⟩:=a18 hh.1;grind|cons _ _=>exact hh.2.elim
def a1w(hU:UOK U)(c:U.C)(x:U.T c):c06 (inj c x)=true/\b0p (inj c x)=U.ag c/\asz (inj c x)=U.n c:=by unfold inj;cases ha:U.ag c with|true=>exact⟨rfl,rfl,rfl⟩|false=>have hlay:=hU.lay c x;have hk:=hU.kind c x;have hs:=hU.sum c;rw[hU.sc c ha]at hlay hs;cases hf:U.flds c x with|nil=>simp_all|cons a r=>cases r with|cons _ _=>simp_all|nil=>
       have hc:a07 a=none:=by simp_all
       refine⟨(by simp_all),?_,?_⟩;.cases a<;>first|rfl|cases hc
       .rw[<-b0z,hc,hs];rfl
def f2i{G:Nat->Prop}{w:World}{c c':U.C}{x':U.T c'}{x:U.T c}(h:cst c x'=some x){cs:O A5}(hr:(Rp c').rep G w cs x'):(Rp c).rep G w cs x:=by unfold cst at h;split at h;all_goals grind
def a3i{G:Nat->Prop}{w:World}{c c':U.C}{x':O (U.T c')}{x:O (U.T c)}(h:b8i c x'=some x):∃he:c'=c,x=he▸x':=by unfold b8i at h;split at h;all_goals simp_all
def a1p.of0{a:U.AV}{u:A5}(h:b79 X a u):a1p X a u:=by cases a<;>first|exact h|exact h.elim
def a1p.to0{a:U.AV}{u:A5}(hp:a03 a=true)(h:a1p X a u):b79 X a u:=by cases a<;>first|exact h|(cases hp)
def d1x(hU:UOK U){X:Cx}{c:U.C}{yv:U.T c}{as:O U.AV}{css:O (O A5)}(hk:U.mkv c as=some yv)(h:y7 (λa s=>∃u,u.cells.toList=s/\a1p X a u) as css):(Rp c).rep X.G X.w css.flatten yv:=by have h1:=hU.mkl c as yv hk;have h2:=hU.kind c yv;refine c96 hU ?_;generalize hf:U.flds c yv=fs at h1 h2;clear hk hf;induction as generalizing css fs with
 |nil=>cases css with
   |nil=>cases fs with|nil=>trivial|cons _ _=>exact h1.elim
   |cons _ _=>exact h.elim
 |cons a as ih=>cases css with|nil=>exact h.elim|cons s css=>cases fs with|nil=>exact h1.elim|cons b fs=>
       simp only[all_cons,qB]at h2;let ⟨u,hu,hr⟩:=h.1;exact⟨c6a h1.1 (by rw[<-hu];exact b4w (by rcases h1.1with rfl|⟨rfl,_⟩;all_goals grind) hr),ih h.2 fs h1.2 h2.2⟩
def e03(hU:UOK U){c:U.C}{yv:U.T c}{as:O U.AV}{css:O (O A5)}(hk:U.mkv c as=some yv)(h:y7 (λa s=>∃u:A5,u.cells.toList=s/\b79 X a u) as css):(Rp c).rep X.G X.w css.flatten yv:=d1x hU hk (h.mono λ_ _⟨u,hu,hh⟩=>⟨u,hu,.of0 hh⟩)
def f2j(hU:UOK U){c:U.C}{yv:U.T c}{as:O U.AV}(hk:U.mkv c as=some yv):as.all a03=true/\as.map a07=U.lay c:=by have h1:=hU.mkl c as yv hk;have h2:=hU.kind c yv;have h3:=hU.lay c yv;rw[<-h3];generalize U.flds c yv=fs at h1 h2;clear hk h3;induction as generalizing fs with
 |nil=>cases fs with|nil=>simp_all|cons _ _=>exact h1.elim
 |cons a as ih=>cases fs with|nil=>exact h1.elim|cons b fs=>
     simp only[all_cons,qB]at h2;let ⟨g1,g2⟩:=ih fs h1.2 h2.2;have key:a03 a=true/\a07 a=a07 b:=by
      rcases h1.1with rfl|⟨rfl,c,rfl⟩;.refine⟨?_,rfl⟩;cases a<;>first|rfl|cases (h2.1)
      .exact⟨rfl,rfl⟩
     grind
def c49{X:Cx}{a:U.AV}{u:A5}(hp:a03 a=true)(h:b79 X a u):u.cells.toList.length=asz a:=by cases a<;>first
  |(cases hp;done)|(rfl)|(obtain⟨cs,rfl,hr⟩:=h;exact(Rp _).len hr)|(rw[b1q h];rfl)|(obtain⟨ad,cs,rfl,_⟩:=h;rfl)
  | (let ⟨_,_,h1⟩:=h;have:u.cells.toList=[u]:=by cases u<;>first|rfl|cases h1
     rw[this];rfl)
def d3f{b:U.AV}:∀{as:O U.AV}{css:O (O A5)}{n:Nat},y7 (λa s=>∃u:A5,u.cells.toList=s/\b79 X a u) as css->as.all a03=true->as[n]?=some b->∃u,b79 X b u/\(css.flatten.drop ((((as.map a07).take n).map osz).sum)).take (asz b)=u.cells.toList/\(((as.map a07).take n).map osz).sum+asz b<=css.flatten.length/\a03 b=true|[],_,n,_,_,hb=>by simp_all|a::as,[],n,h,_,_=>h.elim|a::as,c::css,n,h,hp,hb=>by simp only[all_cons,qB]at hp;let ⟨u,hu,hr⟩:=h.1;have hc:=c49 hp.1 hr;rw[hu]at hc;cases n with|zero=>simp at hb;subst hb;refine⟨u,hr,?_,?_,hp.1⟩;all_goals simp_all|succ n=>
     obtain⟨u1,h1,h2,h3,h4⟩:=d3f h.2 hp.2 (by simpa using hb);refine⟨u1,h1,?_,?_,h4⟩;.simp [map_cons,take_succ_cons,sum_cons,flatten_cons,b0z];rw[drop_append,drop_eq_nil_of_le (by omega)];simp_all
     .simp only[map_cons,take_succ_cons,sum_cons,flatten_cons,b0z,qL];omega
def g2f{as:O U.AV}{css:O (O A5)}(h:y7 (λa s=>∃u:A5,u.cells.toList=s/\b79 X a u) as css)(hp:as.all a03=true):css.flatten.length=((as.map a07).map osz).sum:=by induction as generalizing css with
 |nil=>cases css with|nil=>rfl|cons _ _=>exact h.elim
 |cons a as ih=>cases css with|nil=>exact h.elim|cons c css=>simp only[all_cons,qB]at hp;let ⟨u,hu,hr⟩:=h.1;have hc:=c49 hp.1 hr;rw[hu]at hc;simp [flatten_cons,qL,map_cons,sum_cons,ih h.2 hp.2,b0z,hc]
def b85(hU:UOK U){c:U.C}{a:U.AV}{x:U.T c}(h:prj c a=some x){u:A5}(hr:a1p X a u):(Rp c).rep X.G X.w u.cells.toList x:=by unfold prj at h;cases ha:U.ag c with
 |true=>
   rw[ha]at h;cases a<;>try grind
   case val c' x'=>let ⟨cs,hu,hc⟩:=hr;subst hu;simpa[Value.cells]using f2i h hc
   case st c' as=>
    let ⟨css,hu,_,_,hc⟩:=hr;subst hu;dsimp only at h;split at h;.rename_i x' hk;simpa[Value.cells]using f2i h (e03 hU hk hc)
    grind|false=>
   rw[ha]at h;have hk:=hU.mkl c [a] x h;have hkind:=hU.kind c x;have hf:∃b,U.flds c x=[b]/\AEq a b:=by cases hl:U.flds c x with|nil=>rw[hl]at hk;exact hk.elim|cons b r=>rw[hl]at hk;cases r with|nil=>exact⟨b,rfl,hk.1⟩|cons _ _=>exact hk.2.elim
   let ⟨b,hb,hab⟩:=hf;have h1:=c96 hU (css:=[u.cells.toList]) (by rw[hb];exact⟨c6a hab (b4w (by rcases hab with rfl|⟨rfl,_⟩;all_goals simp_all) hr),trivial⟩);simp_all
def d53(hU:UOK U){c:U.C}{a:U.AV}{x:U.T c}(h:prj c a=some x):asz a=U.n c/\b0p a=U.ag c:=by unfold prj at h;cases ha:U.ag c with
 |true=>
   rw[ha]at h;have key:∀{c':U.C}{x':U.T c'},cst c x'=some x->c'=c:=λh=>by
    unfold cst at h;split at h;.omega
    simp_all
   cases a<;>try(cases h)
   case val c' x'=>have:=key h;subst this;exact⟨rfl,rfl⟩
   case st c' as=>
    dsimp only at h;split at h;.have:=key h;subst this;exact⟨rfl,rfl⟩
    simp_all|false=>rw[ha]at h;have hk:=hU.mkl c [a] x h;have hs:=hU.sum c;have hlay:=hU.lay c x;rw[hU.sc c ha]at hs hlay;cases hl:U.flds c x with|nil=>simp_all|cons b r=>
     rw[hl]at hk hlay;have hc:a07 b=none:=by simp_all
     have hca:a07 a=none:=by
      rcases hk.1with rfl|⟨rfl,_⟩;.omega
      .rfl
     refine⟨by rw[<-b0z,hca,hs];rfl,?_⟩;cases a<;>first|rfl|cases hca
def Loc(X:Cx)(a:U.AV)(ad:Addr):Prop:=∃u,a1p X a u/\CA X.w ad u.cells.toList
def c4n(hU:UOK U){G:Nat->Prop}{w:World}{c:U.C}:∀(l:O (U.T c))(css:O (O A5))(k:Nat),y7 (e8 Rp G w) (l.map (inj c)) css->k<=l.length->(css.take k).flatten.length=k*U.n c|[],[],k,_,h=>by simp_all|[],_::_,_,h,_=>h.elim|_::_,[],_,h,_=>h.elim|y::l,s::css,0,_,_=>by simp|y::l,s::css,k+1,h,hk=>by have h1:=a9t hU h.1;rw[(a1w hU c y).2.2]at h1;simp [take_succ_cons,flatten_cons,qL,h1,c4n hU l css k h.2 (by simp_all)];grind
def c3z{α β:Type}{l:O α}{n:Int}{y:α}(f:α->β)(h:c7 l n=some y):0<=n/\(l.map f)[n.toNat]?=some (f y)/\n.toNat<l.length:=by let ⟨h0,h1,h2⟩:=b8d h;simp_all
def g36(hU:UOK U){ca:U.C}(hA:U.isA ca=true)(x:U.T ca){k:Nat}(hk:k<=(U.al ca x).length):off ca k=k*U.n (U.ae ca):=by
 have key:∀(l:O _)(k:Nat),k<=l.length->((((l.map (inj (U.ae ca))).map a07).take k).map osz).sum=k*U.n (U.ae ca):=by intro l;induction l with|nil=>simp_all|cons y l ih=>intro k h;cases k with|zero=>simp|succ k=>simp only[map_cons,take_succ_cons,sum_cons,b0z,(a1w hU _ y).2.2];grind
 have:=key _ k hk;rw[<-(hU.arr ca x hA).1,hU.lay ca x]at this;exact this
def d3n(hU:UOK U){ca:U.C}{x:U.T ca}(hA:U.isA ca=true){u:A5}(hr:a1p X (.val ca x) u){ad:Addr}(hc:CA X.w ad u.cells.toList){n:Int}{y:U.T (U.ae ca)}(hy:c7 (U.al ca x) n=some y):Loc X (inj (U.ae ca) y) (ad.add (n.toNat*U.n (U.ae ca))):=by
 let ⟨cs,hu,hr⟩:=hr;let ⟨_,css,hcs,hall⟩:=a91.1 hr;rw[(hU.arr ca x hA).1]at hall;obtain⟨_,h1,h2⟩:=c3z _ hy;let ⟨s,hs,hf⟩:=hall.get h1;have ht:=c4n hU _ css n.toNat hall (by omega);let ⟨u1,hu1,hr1⟩:=a18 hf;refine⟨u1,hr1,?_⟩;have hsub:(css.flatten.drop (n.toNat*U.n (U.ae ca))).take s.length=s:=by rw[<-ht];clear ht h1 h2 hf hall hr hcs hy;generalize n.toNat=k at hs;induction css generalizing k with|nil=>simp_all|cons c css ih=>cases k with|zero=>simp_all|succ k=>simp_all
 rw[hu1,<-hsub];subst hu;rw[hcs]at hc;refine CA.sub ?_ _ _;simpa[Value.cells]using hc
def e1e{c:U.C}{y:U.T c}{p:O PE}{b:U.AV}(hU:UOK U)(hn:nav (inj c y) p=some b):p=[]\/∃x,(inj c y)=(.val c x:U.AV):=by cases ha:U.ag c with|true=>simp_all[inj]|false=>left;cases p with|nil=>rfl|cons q p=>have h2:=(a1w hU c y).2.1;rw[ha]at h2;cases hi:inj c y<;>rw[hi]at hn h2<;>first|(done)|(cases h2;done)|(cases q<;>cases hn)
def f2g{α:Type}{l:O α}{n:Int}(h0:0<=n)(h1:n<(l.length:Int)):∃y,c7 l n=some y:=by simp_all[c7]
def c99(hU:UOK U){X:Cx}:∀(p:O PE)(a:U.AV)(c:U.C)(ad:Addr)(b:U.AV),Loc X a ad->(p=[]\/a07 a=some c)->okV c p->nav a p=some b->Loc X b (ad.add (b3g c p))
 |[],a,c,ad,b,h,_,_,hn=>by cases hn;simp_all[b3g,Addr.add]|.f n::p,a,c,ad,b,h,hc,hok,hn=>by
   replace hc:a07 a=some c:=(by grind);have fin:∀b1,(U.lay c)[n]?=some (a07 b1)->nav b1 p=some b->Loc X b1 (ad.add (off c n))->Loc X b (ad.add (b3g c (.f n::p))):=by intro b1 hcode hn hl1;simp [b3g,hcode];simp [okV,hcode]at hok;rw[<-Addr.add_add];cases hcb:a07 b1 with|some c1=>rw[hcb]at hok;exact c99 hU p b1 c1 _ b hl1 (.inr hcb) hok hn|none=>cases p with|nil=>cases hn;simpa[Addr.add]using hl1|cons q p=>cases b1<;>first|(cases hcb;done)|(cases q<;>cases hn)
   cases a<;>try(cases hc;done)
   case val c' x=>cases hc;simp [nav]at hn;cases hb:(U.flds c x)[n]?with|none=>simp_all|some b1=>rw[hb]at hn;let ⟨u,⟨cs,hu,hr⟩,hca⟩:=h;subst hu;let ⟨h1,h2⟩:=c4d hU hr hb;let ⟨u1,hu1,hr1⟩:=a18 h1;exact fin b1 (e71 hU hb) hn ⟨u1,hr1,by rw[hu1];exact CA.sub hca _ _⟩
   case st c' as=>cases hc;simp [nav]at hn;cases hb:as[n]?with|none=>simp_all|some b1=>
      rw[hb]at hn;let ⟨u,⟨css,hu,hlay,hp,hr⟩,hca⟩:=h;subst hu;let ⟨u1,h1,h2,h3,_⟩:=d3f hr hp hb;rw[hlay]at h2 h3;refine fin b1 ?_ hn ⟨u1,.of0 h1,?_⟩;.rw[<-hlay,getElem?_map,hb];rfl
      .rw[<-h2];exact CA.sub hca _ _
 |.i n::p,a,c,ad,b,h,hc,hok,hn=>by
   cases a<;>try(cases hn)
   rename_i c' x;replace hc:=qH (hc.resolve_left (λh=>by grind));subst hc;simp [nav]at hn;split at hn;.rename_i hA;let ⟨h0,h1,hok⟩:=hok;obtain⟨y,hy⟩:=f2g h0 (by rw[(hU.arr c' x hA).2];omega);rw[hU.gt c' x n y hA hy]at hn;let ⟨u,hu,hca⟩:=h;have:=c99 hU p _ _ _ b (d3n hU hA hu hca hy) ((e1e hU hn).imp_right λ⟨x,hx⟩=>by rw[hx];rfl) hok hn;simp [b3g];rw[<-Addr.add_add];omega
   grind
section
variable {E:Env} {Z:Nat -> Prop} {π:Nat -> A5} {σ:U.St} {ρ:Nat -> A5} {w:World}
variable {d:A3 Tmp} {ty:TypeId} {ps:String} {af:Array Edge} {g:A3 (Nat×Bool)} {x y z:Operand} {m0 m:Nat} {a b c v:U.AV} {ws:O (Nat×U.MC)} {fr:Nat}
def b45{t:TypeId}{n:Nat}(h:e54 P t n=true){w:World}:(sizeOf t).run P w=.ok n w:=by
 unfold e54 at h;split at h;.rename_i i hi;have:=qC h;subst this;simp[sizeOf,typeInfo,program,Sem.run,hi,pure,bind,Sem.bind]
 grind
def b9m{t:TypeId}{b:Bool}(h:g6u P t b=true){w:World}:(isAgg t).run P w=.ok b w:=by
 unfold g6u at h;split at h;.rename_i fs hu;subst h;simp[isAgg,b55 hu]
 .rename_i n e hu;subst h;simp[isAgg,b55 hu]
 .rename_i dsc h1 h2 hu;cases b with|true=>grind|false=>simp only[isAgg,Sem.run_bind,b55 hu,Result.andThen_ok];simp_all
 grind
def c0w{u:A5}(h:u.oneCell'=true):u.cells.toList=[u]:=by cases u<;>first|rfl|cases h
def c8g(hU:UOK U){t:TypeId}{ad:Addr}{u:A5}(hf:b33 P t a=true)(hr:a1p X a u)(hca:CA X.w ad u.cells.toList):(Instr.loadAt t (.pointer (some ad))).run P X.w=.ok u X.w:=by
 unfold b33 at hf;simp [qB]at hf;let ⟨⟨hp,hag⟩,hs⟩:=hf;cases hv:b0p a with|true=>
   rw[hv]at hag;cases a<;>try(cases hv;done)
   case val c x=>obtain⟨cs,rfl,hc⟩:=hr;have hl:=(Rp c).len hc;refine d6h (n:=U.n c) ?_ hl (by simp_all[Value.cells]);simp[Instr.loadAt,Instr.sureAddr,loadVar,b9m hag,b45 hs,asz]
   case st c as=>obtain⟨css,rfl,hlay,hpp,hc⟩:=hr;have hl:=g2f hc hpp;rw[hlay,<-hU.sum]at hl;refine d6h ?_ hl (by simpa[Value.cells]using hca);simp[Instr.loadAt,Instr.sureAddr,loadVar,b9m hag,b45 hs,asz]|false=>
   rw[hv]at hag;have hu:u.cells.toList=[u]:=by cases a<;>first|(cases hp;done)|(cases hv;done)|(subst hr;rfl)|exact b1q hr|(let ⟨ad,cs,hr,_⟩:=hr;subst hr;rfl)|(let ⟨_,_,h1⟩:=hr;exact c0w h1)
   rw[hu]at hca;exact e9v (by simp[Instr.loadAt,Instr.sureAddr,loadVar,b9m hag]) hca
def e33(hU:UOK U){t:TypeId}{ad:Addr}(hf:b33 P t a=true)(h:Loc X a ad):∃u,a1p X a u/\(Instr.loadAt t (.pointer (some ad))).run P X.w=.ok u X.w:=by let ⟨u,hr,hca⟩:=h;exact⟨u,hr,c8g hU hf hr hca⟩
end
end
section
variable {P:Program} {U:Uni} {E:Env} {Z:Nat -> Prop} {π:Nat -> A5} {σ:U.St} {ρ:Nat -> A5} {w:World}
variable {d:A3 Tmp} {ty:TypeId} {ps:String} {af:Array Edge} {g:A3 (Nat×Bool)} {x y z:Operand} {m0 m:Nat} {a b v:U.AV} {ws:O (Nat×U.MC)} {fr:Nat}
def c0a{c c':U.C}(h:eqC c c'=true):c=c':=by unfold eqC at h;split at h;all_goals grind
def Own.elem{n:Nat}{e:TypeId}{css:O (Raw n)}{u:A5}(hO:Own 0 e n Subtype.val w u css){i:Int}{r:Raw n}(hi:c7 css i=some r):∃ad cap,u=.slice (some ad) css.length cap/\(0<=i/\i<(css.length:Int))/\CA w (ad.add (i.toNat*n)) r.1:=by let ⟨h0,h1,h2⟩:=b8d hi;let ⟨ad,cap,hv,hc,hm⟩:=hO.shape;cases ad with|none=>rcases hO with⟨_,hl⟩|⟨g,o,cap',cur,hv',_⟩;all_goals simp_all|some ad=>exact⟨ad,cap,hv,⟨h0,h1⟩,CA.elem n (λr=>r.2.1) (hO.ca hv) hi⟩
def c45{α β:Type}{p:α->β->Prop}{l:O α}{r:O β}(h:y7 p l r){i:Int}{y:β}(hy:c7 r i=some y):∃x,c7 l i=some x/\p x y:=by let ⟨h0,h1,h2⟩:=b8d hy;let ⟨x,hx,hp⟩:=h.getR h2;exact⟨x,by unfold c7;simp_all,hp⟩
def g35(hU:UOK U){X:Cx}{c:U.C}{y:U.T c}{cs:O A5}(hr:(Rp c).rep X.G X.w cs y){ad:Addr}(hc:CA X.w ad cs):Loc X (inj c y) ad:=by let ⟨u,hu,hv⟩:=d9e hU hr;exact⟨u,hv,by grind ⟩
def e2m(hU:UOK U)(h:Rel E Z π σ ρ w){id:Nat}{c:U.C}{p:O PE}{k:U.AV->U.Q}(hc:p=[]\/c18 c (σ.mem id) p=true)(hok:okP c p)(hev:(g1o (σ.mem id) p k).Ev σ m0 m v ws):∃b,(k b).Ev σ m0 m v ws/\∀ad,c5g (π id)=some ad->Loc (cx Z π σ w) b (ad.add (d2l c p)):=by
 have hm:=h.mem id;cases hmem:σ.mem id<;>rw[hmem]at hev hm hc<;>try exact hev.elim
 case box t a0=>
  have gen:(match nav a0 p with|some b=>k b|none=>.fail).Ev σ m0 m v ws->(p=[]\/a07 a0=some c)->okV c p->∃b,(k b).Ev σ m0 m v ws/\∀ad,c5g (π id)=some ad->Loc (cx Z π σ w) b (ad.add (b3g c p)):=by intro hev hc hok;cases hn:nav a0 p with|none=>rw[hn]at hev;exact hev.elim|some b=>rw[hn]at hev;refine⟨b,hev,λad had=>?_⟩;let ⟨blk,u,hv,hM,ha⟩:=hm;rw[hv]at had;cases had;exact c99 hU p a0 c _ b ⟨u,ha,hM.ca⟩ hc hok hn
  have gen2:∀a0',a0=a0'->g59 c (.box t a0')=true->a07 a0'=some c:=by
   intro a0' _ hc;cases a0'<;>try(cases hc)
   all_goals have:=c0a hc;subst this;rfl
  cases p with|nil=>exact gen (by cases a0<;>exact hev) (.inl rfl) trivial|cons q p=>replace hc:=hc.resolve_left (λh=>by grind);cases q with|f n=>exact gen (by cases a0<;>exact hev) (.inr (gen2 a0 rfl (by cases a0<;>exact hc))) hok|i n=>
      have plain:nav a0 (.i n::p)=none->(match nav a0 (.i n::p)with|some b=>k b|none=>.fail).Ev σ m0 m v ws->∃b,(k b).Ev σ m0 m v ws/\∀ad,c5g (π id)=some ad->Loc (cx Z π σ w) b (ad.add (d2l c (.i n::p))):=by intro hn hev;rw[hn]at hev;exact hev.elim
      cases a0<;>try exact plain rfl hev
      rename_i ca x;have hev:(match U.isA ca with|true=>Q.opt _ _|false=>(.fail)).Ev σ m0 m v ws:=hev;have hc:(U.isA ca&&eqC c _)=true:=hc;simp [qB]at hc;rw[hc.1]at hev;let ⟨y,hy,hev⟩:=hev;have hcc:=c0a hc.2;subst hcc;dsimp only at hev;cases hn:nav _ p with|none=>rw[hn]at hev;exact hev.elim|some b=>rw[hn]at hev;refine⟨b,hev,λad had=>?_⟩;let ⟨blk,u,hv,hM,ha⟩:=hm;rw[hv]at had;cases had;have:=c99 hU p _ _ _ b (d3n hU hc.1 ha hM.ca hy) ((e1e hU hn).imp_right λ⟨x,hx⟩=>by rw[hx];rfl) hok hn;rw[Addr.add_add]at this;exact this
 case sl e c' l=>cases p with|nil=>exact hev.elim|cons q p=>cases q with|f n=>exact hev.elim|i n=>
      have hc:eqC c c'=true:=by
       rcases hc with hc|hc;.grind
       .exact hc
      have:=c0a hc;subst this;let ⟨y,hy,hev⟩:=hev;dsimp only at hev;cases hn:nav _ p with|none=>rw[hn]at hev;exact hev.elim|some b=>rw[hn]at hev;refine⟨b,hev,λad had=>?_⟩;let ⟨css,hO,hr⟩:=hm;let ⟨r,hr1,hrep⟩:=c45 hr hy;let ⟨ad',cap,hv,_,hca⟩:=Own.elem hO hr1;rw[hv]at had;cases had;have:=c99 hU p _ c _ b (g35 hU hrep hca) ((e1e hU hn).imp_right λ⟨x,hx⟩=>by rw[hx];rfl) hok hn;rw[Addr.add_add]at this;exact this
def c1z(hU:UOK U)(h:Rel E Z π σ ρ w){t:TypeId}{ad:Addr}(hx:ev ρ x=.pointer (some ad))(hf:b33 P t b=true)(hL:Loc (cx Z π σ w) b ad):a48 P E σ ρ w ⟨d,.load t x,ty,ps,af,g⟩ b []:=by let ⟨u,hu,hr⟩:=e33 hU hf hL;exact g8 h (d32 hx hr) (AVR.of1 hu)
def f5n{t:TypeId}(h:g6l P t=true):∃n,n≠0/\(sizeOf t).run P w=.ok n w:=by
 unfold g6l at h;split at h;.rename_i i hi;refine⟨i.size,λh0=>?_,by simp[sizeOf,typeInfo,program,Sem.run,hi,pure,bind,Sem.bind]⟩;simp_all
 grind
def c36{s:TypeId}{fs:Array Field}{f:Nat}{fl:Field}{ad:Addr}(hs:P.underlying s=some (.struct fs))(hf:fs[f]?=some fl)(hp:g6l P fl.type=true):(Instr.fieldAt s (.pointer (some ad)) f).run P w=.ok (.pointer (some (ad.add fl.offset))) w:=by let ⟨n,h0,hn⟩:=f5n (w:=w) hp;simp[Instr.fieldAt,b55 hs,hf,Instr.sureAddr,fieldPlace,hn,h0]
def e5z(hU:UOK U)(h:Rel E Z π σ ρ w){s:TypeId}{f:Nat}(hx:AVR (cx Z π σ w) a (ev ρ x))(hev:(e7u P s f a).Ev σ m0 m v ws):a48 P E σ ρ w ⟨d,.fieldAddr s x f,ty,ps,af,g⟩ v ws:=by
 unfold e7u at hev;split at hev;case h_2=>exact hev.elim
 rename_i fs hs;split at hev;case h_2=>exact hev.elim
 rename_i fl hf;split at hev
 .rename_i c yv;split at hev
  .rename_i b hc hb;obtain⟨hm1,rfl,rfl⟩:=hev;simp [qB]at hc;let ⟨ad,cs,hv,hblk,hg,hca,hr⟩:=hx;let ⟨h1,h2⟩:=c4d hU hr hb;refine g8 h (c3e hv (c36 hs hf hc.2)) ⟨_,_,rfl,?_,?_,CA.sub hca (off c f) (asz b)|>λq=>?_,h1⟩;.rw[a2h];omega
   .rw[a2h];omega
   simp_all
  .exact hev.elim
 .rename_i id;simp [Q.Ev]at hev;split at hev
  .rename_i t a0 hmem;split at hev;case h_2=>exact hev.elim
   rename_i c hca;split at hev
   .rename_i hc;obtain⟨hm1,rfl,rfl⟩:=hev;simp only[qB,decide_eq_true_eq]at hc;have hm:=h.mem id;rw[hmem]at hm;let ⟨blk,u,hv,hM,ha⟩:=hm;refine g8 h (c3e (hx.2.1.trans hv) (c36 hs hf hc.1.2)) ⟨hx.1,⟨blk,0,none⟩,?_,?_,?_⟩;.show c5g (π id)=_;rw[hv];rfl
    .simp [okP,okV];cases hl:(U.lay c)[f]?with|none=>grind|some o=>cases o<;>trivial
    .rw[<-(qC hc.1.1)];simp [d2l,b3g];cases hl:(U.lay c)[f]?with|none=>simp|some o=>cases o<;>simp[b3g]
   .exact hev.elim
  .exact hev.elim
 .exact hev.elim
def c15:∀(p:O PE)(c c':U.C)(q:PE),c34 c p=some c'->b3g c (p++[q])=b3g c p+b3g c' [q]/\(okV c p->okV c' [q]->okV c (p++[q]))
 |[],c,c',q,h=>by cases h;exact⟨(Nat.zero_add _).symm,λ_ h=>h⟩|.f n::p,c,c',q,h=>by
   simp [c34]at h;split at h;.rename_i c1 hl;let ⟨h1,h2⟩:=c15 p c1 c' q h;simp [cons_append,b3g,okV,hl];grind
   grind|.i n::p,c,c',q,h=>by
   simp [c34]at h;split at h;.let ⟨h1,h2⟩:=c15 p _ c' q h;simp [cons_append,b3g,okV];grind
   grind
def c5f{p:O PE}{c c':U.C}{q:PE}(h:(match p with|.i _::q=>c34 c q|_=>c34 c p)=some c')(hq:p=[]->∃n,q=.f n):d2l c (p++[q])=d2l c p+b3g c' [q]/\(okP c p->okV c' [q]->okP c (p++[q])):=by match p,h,hq with|[],h,hq=>obtain⟨n,rfl⟩:=hq rfl;exact c15 [] c c' _ h|.f n::p,h,_=>exact c15 _ c c' q h|.i n::p,h,_=>let ⟨h1,h2⟩:=c15 p c c' q h;refine⟨?_,h2⟩;show n.toNat*U.n c+b3g c (p++[q])=n.toNat*U.n c+b3g c p+_;omega
def f5b{p:O PE}{c c':U.C}{n:Int}(h:(match p with|[]=>none|.i _::q=>c34 c q|.f k::q=>c34 c (.f k::q))=some c'):d2l c (p++[.i n])=d2l c p+b3g c' [.i n]/\(okP c p->okV c' [.i n]->okP c (p++[.i n])):=by cases p with|nil=>grind|cons q p=>cases q with|f k=>exact c5f h λe=>by grind|i k=>exact c5f h λe=>by grind
def h1g{c:U.C}{f:Nat}:b3g c [.f f]=off c f:=by grind[b3g]
def h36{c:U.C}{f:Nat}:okV c [.f f]:=by grind[okV]
def d98(h:Rel E Z π σ ρ w){s:TypeId}{f id:Nat}{c:U.C}{p:O PE}(hx:AVR (cx Z π σ w) (.fref id c p) (ev ρ x))(hev:(e0q P s f id c p).Ev σ m0 m v ws):a48 P E σ ρ w ⟨d,.fieldAddr s x f,ty,ps,af,g⟩ v ws:=by
 unfold e0q at hev;split at hev;case h_2=>exact hev.elim
 rename_i fs hs;split at hev;case h_2=>exact hev.elim
 rename_i fl hf;let ⟨hu,ad,had,hok,hv⟩:=hx;split at hev
 .rename_i c' hc';split at hev;.rename_i hc;obtain⟨hm1,rfl,rfl⟩:=hev;simp only[qB,decide_eq_true_eq]at hc;let ⟨h1,h2⟩:=c5f hc' λ_=>⟨f,rfl⟩;refine g8 h (c3e hv (c36 hs hf hc.1.2)) ⟨hu,ad,had,h2 hok h36,?_⟩;rw[h1,h1g,<-qC hc.1.1,Addr.add_add]
  .exact hev.elim
 .exact hev.elim
def e38{t:TypeId}{cs:O A5}{o:Nat}(hf:b33 P t b=true)(hr:e8 Rp (cx Z π σ w).G w b ((cs.drop o).take (asz b)))(hl:o+asz b<=cs.length):∃u,a1p (cx Z π σ w) b u/\(part t cs.toArray o).run P w=.ok u w:=by
 unfold b33 at hf;simp [qB]at hf;let ⟨⟨hp,hag⟩,hs⟩:=hf;have hr0:=hr
 let ⟨u,hu,hur⟩:=a18 hr;refine⟨u,hur,?_⟩;cases hv:b0p b with|true=>
   rw[hv]at hag;cases b<;>try(cases hv;done)
   case st=>exact hr0.elim
   let ⟨cs',hu',hc'⟩:=hur;have e:=by simpa[Value.cells,asz]using hu
   simp [part,Sem.run_bind,b9m hag,Result.andThen_ok,if_true,b45 hs,asz];simp_all|false=>
   rw[hv]at hag;have h1:asz b=1:=by cases b<;>first|rfl|cases hv
   rw[h1]at hu hl;have hlt:o<cs.length:=by omega
   have hcu:u.cells.toList=[cs[o]]:=by rw[hu,drop_eq_getElem_cons hlt,take_succ_cons,take_zero]
   have huc:u=cs[o]:=by cases b<;>first|(done)|(cases hv;done)|(subst hur;simpa[Value.cells]using hcu)|(have:=b1q hur;grind)|(let ⟨ad,cs',hur,_⟩:=hur;subst hur;simpa[Value.cells]using hcu)|exact hr0.elim
   simp[part,b9m hag,hlt,huc]
def e4h(hU:UOK U)(h:Rel E Z π σ ρ w){t:TypeId}(hx:AVR (cx Z π σ w) a (ev ρ x))(hy:AVR (cx Z π σ w) b (ev ρ y))(hev:(e7e P t a b).Ev σ m0 m v ws):a48 P E σ ρ w ⟨d,.index t x y,ty,ps,af,g⟩ v ws:=by
 unfold e7e at hev;split at hev;.rename_i s k n ht;obtain⟨c,hc,hm,rfl,rfl⟩:=hev;exact g8 h (g5o hx hy ht hc) rfl
 .rename_i k e ca xv n ht;split at hev;case h_2=>exact hev.elim
  rename_i hok;simp only[qB]at hok;let ⟨⟨hA,hmn⟩,he2⟩:=hok;have hmn:=qC hmn;let ⟨zv,hz,hev⟩:=hev;dsimp only at hev;split at hev;case h_2=>exact hev.elim
  rename_i hf;obtain⟨hm1,rfl,rfl⟩:=hev;let ⟨cs,hv,hr⟩:=hx;let ⟨_,css,hcs,hall⟩:=a91.1 hr;rw[(hU.arr ca xv hA).1]at hall;obtain⟨h0,h1,h2⟩:=c3z _ hz;let ⟨s,hs,hfr⟩:=hall.get h1;have ht2:=c4n hU _ css n.toNat hall (by omega);have hsl:=(a9t hU hfr).trans (a1w hU _ zv).2.2;have hsub:(css.flatten.drop (n.toNat*U.n (U.ae ca))).take s.length=s/\n.toNat*U.n (U.ae ca)+s.length<=css.flatten.length:=by rw[<-ht2];clear ht2 h1 h2 hfr hall hr hcs hz hsl;generalize n.toNat=k at hs;induction css generalizing k with|nil=>simp_all|cons c css ih=>cases k with|zero=>simp_all|succ k=>simp only[take_succ_cons,flatten_cons,qL];rw[drop_length_add_append];grind
  have hz2:=((a1w hU _ zv).2.2).trans hsl.symm;obtain⟨u,hur,hrun⟩:=e38 (cs:=cs) hf (by rw[hz2,hcs,hsub.1];exact hfr) (by simp_all);have hlt:n<(k):=by have:=(hU.arr ca xv hA).2;omega
  refine g8 h (show YV P _ w _ u from ?_) (AVR.of1 hur);have hy':ev ρ y=.int _ n:=hy;simp[YV,execOp,hv,hy',Instr.index,asIntOf,run_underlying ht,h0,hlt,b45 he2,hrun]
 .exact hev.elim
def e93{X:Cx}{t:TypeId}{cs:O A5}{o:Nat}{u:A5}(hf:b33 P t b=true)(hp:a03 b=true)(hr:b79 X b u)(hu:(cs.drop o).take (asz b)=u.cells.toList)(hl:o+asz b<=cs.length):(part t cs.toArray o).run P w=.ok u w:=by
 unfold b33 at hf;simp [qB]at hf;let ⟨⟨hpl,hag⟩,hs⟩:=hf;cases hv:b0p b with|true=>
   rw[hv]at hag;cases b<;>try(cases hv;done)
   case st=>cases hp
   let ⟨cs',hu',hc'⟩:=hr;have e:=by simpa[Value.cells,asz]using hu.symm
   simp [part,Sem.run_bind,b9m hag,Result.andThen_ok,if_true,b45 hs,asz];simp_all|false=>
   rw[hv]at hag;have h1:asz b=1:=by cases b<;>first|rfl|cases hv
   rw[h1]at hu hl;have hlt:o<cs.length:=by omega
   have hcu:u.cells.toList=[cs[o]]:=by rw[<-hu,drop_eq_getElem_cons hlt,take_succ_cons,take_zero]
   have huc:u=cs[o]:=by cases b<;>first|(cases hp;done)|(cases hv;done)|(subst hr;simpa[Value.cells]using hcu)|(have:=b1q hr;simp_all)|(let ⟨ad,cs,hr,_⟩:=hr;subst hr;simpa[Value.cells]using hcu)|(let ⟨_,_,h1⟩:=hr;rw[c0w h1]at hcu;simp_all)
   simp[part,b9m hag,hlt,huc]
def e5u(hU:UOK U)(h:Rel E Z π σ ρ w){s:TypeId}{f:Nat}(hx:AVR (cx Z π σ w) a (ev ρ x))(hev:(g4d P s f a).Ev σ m0 m v ws):a48 P E σ ρ w ⟨d,.field s x f,ty,ps,af,g⟩ v ws:=by
 unfold g4d at hev;split at hev;case h_2=>exact hev.elim
 rename_i fs hs;split at hev;case h_2=>exact hev.elim
 rename_i fl hf;split at hev
 .split at hev;case h_2=>exact hev.elim
  rename_i b hb;split at hev;case h_2=>exact hev.elim
  rename_i hc;obtain⟨hm1,rfl,rfl⟩:=hev;simp only[qB]at hc;let ⟨cs,hv,hr⟩:=hx;let ⟨h1,h2⟩:=c4d hU hr hb;let ⟨u,hur,hrun⟩:=e38 hc.2 h1 h2;refine g8 h (f0s hv ?_) (AVR.of1 hur);simp[Instr.field,b55 hs,hf,asAgg,<-(qC hc.1),hrun]
 .split at hev;case h_2=>exact hev.elim
  rename_i b hb;split at hev;case h_2=>exact hev.elim
  rename_i hc;obtain⟨hm1,rfl,rfl⟩:=hev;simp only[qB]at hc;let ⟨css,hv,hlay,hp,hr⟩:=hx;let ⟨u,h1,h2,h3,h4⟩:=d3f hr hp hb;rw[hlay]at h2 h3;have hrun:=e93 (w:=w) hc.1.2 h4 h1 h2 h3;refine g8 h (f0s hv ?_) (AVR.of1 (.of0 h1));have e:=(qC hc.1.1);simp only[off]at e;rw[e]at hrun;simp[Instr.field,b55 hs,hf,asAgg,hrun]
 .exact hev.elim
end
end Go.SX
