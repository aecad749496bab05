/- Texts of the proof, joined. -/
import Derived.Calls
import Derived.Orders
import Derived.LoopN
import Derived.LoopNIn
import Derived.OrdersIn
import Derived.Below
import Derived.KernelRfl
import Derived.Laws.Sem
import Derived.Laws.AppendOwn
import Derived.Deep.Slices
import Derived.Laws.StructEq
import Derived.Lib.BytesEntry
import Derived.Lib.Bytealg
import Derived.Laws.BytesString
import Derived.DataElems
set_option linter.defProp false
set_option linter.unusedVariables false
set_option linter.unusedSimpArgs false
set_option maxRecDepth 100000
open List
namespace Go
abbrev O.{u}:=List.{u}
abbrev A3.{u}:=Option.{u}
abbrev A4:=ByteArray
abbrev A5:=Value
def qA:∀{b c:Type _}(a:b)(f:b->A3 c),Option.bind (some a) f=f a:=λ_ _=>rfl
def qB:∀(a b:Bool),((a&&b)=true)=(a=true/\b=true):=by grind
def qC:∀{n m:Nat},Nat.beq n m=true->n=m:=by simp_all
def qD:∀{b:Type _}{i:Nat}{a:b}{l:O b},l[i]?=some a↔∃h:i<l.length,l[i]=a:=by grind
def qE:∀{b:Type _}{l:O b}{i:Nat}{a:b},l[i]?=some a->a∈l:=by grind
def qF:∀{c:Type _}{a b:c},a∈[b]↔a=b:=by grind
def qG:∀{a:Type _}{l:O a}{i:Nat}(h:i<l.length),l[i]?=some l[i]:=by grind
def qH:∀{c:Type _}{a b:c},some a=some b->a=b:=by grind
def qI:∀{b:Type _}{a:b}{l:O b},a∈a::l:=by grind
def qJ:∀{b:Type _}(y:b){a:b}{l:O b},a∈l->a∈y::l:=by grind
def qK:∀{b:Type _}{a:b}{s t:O b},a∈s++t↔a∈s\/a∈t:=by grind
def qL:∀{c:Type _}{a b:O c},(a++b).length=a.length+b.length:=by grind
def qM:(false=true)=False:=by grind
def qN:∀{c:Type _}{i:Nat}{b:c}{a:Array c},a[i]?=some b↔∃h:i<a.size,a[i]=b:=by grind
def qO:∀{c:Type _}{b:c}{l:O c}{a:c},a∈b::l↔a=b\/a∈l:=by grind
theorem qP:∀{c:Type _}{b:c}{d:Type _}{x:Option d}{f:d->Option c},Option.bind x f=some b↔∃a,x=some a/\f a=some b:=@Option.bind_eq_some_iff
theorem qQ:∀{d:Type _}(a b c:List d),a++b++c=a++(b++c):=@List.append_assoc
theorem qR:∀{b:Type _}{a:b}{l:List b},(a::l).length=l.length+1:=@List.length_cons
theorem qS:∀{a:Type _},([]:List a).length=0:=@List.length_nil
theorem qT:∀{a:Int},0<=a->∃n:Nat,a=n:=@Int.eq_ofNat_of_zero_le
theorem qU:(!true)=false:=Bool.not_true
theorem qV:∀{a:Type _}{l:List a}{n:Nat}(h:n<l.length),l[n]∈l:=@List.getElem_mem
theorem qW:∀{n m:Nat},Nat.ble n m=true->n<=m:=@Nat.le_of_ble_eq_true
theorem qX:∀{a:Type _}{p:a->Bool}{l:List a},l.all p=true↔∀x,x∈l->p x=true:=@List.all_eq_true
end Go
namespace Go.PL
open Go
def Frd(n:Nat)(ρ:Nat->A5)(ds:O Deferred):Act:={tmps:=Array.ofFn (n:=n) λi=>ρ i.1,defers:=ds}
abbrev Fr(n:Nat)(ρ:Nat->A5):Act:=Frd n ρ []
def upd(ρ:Nat->A5)(d:Nat)(v:A5):Nat->A5:=λt=>if t=d then v else ρ t
def b20(ρ:Nat->A5):A3 Tmp->A5->(Nat->A5)|some d,v=>upd ρ d v|none,_=>ρ
def ev(ρ:Nat->A5):Operand->A5|.tmp t=>ρ t|.const v=>v|.global g=>.pointer (some ⟨g,0,none⟩)|.func f=>.func (.func f) #[] #[]
def Operand.below(n:Nat):Operand->Bool|.tmp t=>decide (t<n)|_=>true
def f6c(ρ:Nat->A5)(d:Nat)(v:A5):upd ρ d v d=v:=by simp[upd]
def c1l(ρ:Nat->A5){d t:Nat}(v:A5)(h:t≠d):upd ρ d v t=ρ t:=by simp[upd,h]
def c6r(n:Nat)(ρ:Nat->A5)(a:O Deferred)(d:A3 Tmp)(v:A5):(Frd n ρ a).put d v=Frd n (b20 ρ d v) a:=by cases d with|none=>rfl|some d=>
   simp [Act.put,Frd,b20];apply Array.ext;.simp
   .intro i c b;simp[upd];split<;>simp_all[eq_comm]
def g85{n:Nat}(ρ:Nat->A5){a:O Deferred}{t:Nat}(h:t<n):(Frd n ρ a).tmps[t]?=some (ρ t):=by simp[Frd,h]
def b75{n:Nat}{ρ:Nat->A5}{a:O Deferred}{x:Operand}(h:Operand.below n x=true):(Frd n ρ a).eval x=ev ρ x:=by cases x<;>simp_all[Operand.below,Act.eval,ev,Frd]
structure Ext(G:Nat->Prop)(w w':World):Prop where
 os:w'.os=w.os
 tape:w'.tape=w.tape
 output:w'.output=w.output
 size:w.heap.size<=w'.heap.size
 block:∀b,b<w.heap.size->¬G b->w'.heap[b]?=w.heap[b]?
def noG:Nat->Prop:=λ_=>False
def Ext.refl(G:Nat->Prop)(w:World):Ext G w w:=⟨rfl,rfl,rfl,Nat.le_refl _,λ_ _ _=>rfl⟩
def Ext.trans{G:Nat->Prop}{a b c:World}(h:Ext G a b)(k:Ext G b c):Ext G a c:=⟨k.os.trans h.os,k.tape.trans h.tape,k.output.trans h.output,Nat.le_trans h.size k.size,λi f e=>(k.block i (Nat.lt_of_lt_of_le f h.size) e).trans (h.block i f e)⟩
def Ext.mono{G c:Nat->Prop}{a b:World}(h:Ext G a b)(f:∀i,G i->c i):Ext c a b:=⟨h.os,h.tape,h.output,h.size,λi e d=>h.block i e (λg=>d (f i g))⟩
def Ext.of_no{G:Nat->Prop}{a b:World}(h:Ext noG a b):Ext G a b:=h.mono (λ_ c=>c.elim)
def Ext.drew{G:Nat->Prop}{a w:World}(h:Ext G a w):Ext G a w.drew:=⟨h.os,h.tape,h.output,h.size,h.block⟩
def Ext.below{w w':World}(h:Ext noG w w'):RowKit.Below w.heap.size w w':=⟨h.os,h.tape,h.output,h.size,λk a=>h.block k a (λb=>b)⟩
def Ext.alloc(G:Nat->Prop)(w:World)(o:Obj):Ext G w (w.alloc o):=⟨rfl,rfl,rfl,by simp,λk a _=>RowKit.Below.heap_alloc _ _ _ a⟩
def a0k(P:Program)(o:Oper)(d:Operand->A5)(w:World)(K:A5->World->Prop):Prop:=match(execOp d o).run P w with|.ok (.value v) a=>K v a|.ok .skip a=>K undef a|.ok (.enter f b) a=>Calls P f b a λe c=>∃v,e=.returned v/\K v c|_=>False
def FR(r:A3 Nat):Fence:={Fence.wide with round:=r}
def f5h{r:A3 Nat}{m:Nat}{P:Program}{f:FuncId}{a:Array A5}{w:World}{R:Ending->World->Prop}(h:Calls P f a w R):CallsIn (FR r) m P f a w R:=callsIn_wide.2 h
def a0k.wp{P:Program}{o:Oper}{a:Act}{w:World}{K:A5->World->Prop}{b:Act->World->Prop}{Q:Exit->Act->World->Prop}{r:A3 Nat}{m:Nat}(h:a0k P o a.eval w K)(hn:∀v w',K v w'->b (a.put o.dst v) w'):o.wpIn (FR r) m P a w b Q:=by
 refine⟨λ_ _=>trivial,?_⟩;rw[Oper.semAt_eq _ _ _ (by intro c g;unfold a0k at h;simp [execOp,g,Sem.run_bind]at h;cases j:(resolve _ c _).run P w<;>rw[j]at h<;>simp[Result.andThen]at h)];unfold a0k at h;generalize(execOp _ o).run P w=q at*;cases q with
 |ok x w'=>cases x with|value v=>exact hn _ _ h|skip=>exact hn _ _ h|enter f d=>exact⟨λi=>Bool.noConfusion (show false=true from i),f5h (Calls.mono h λe k⟨v,n,l⟩=>by simp_all)⟩|_=>grind
 |halt x w'=>grind
def a0k.mono{P:Program}{o:Oper}{a:Operand->A5}{w:World}{K b:A5->World->Prop}(h:a0k P o a w K)(hn:∀v w',K v w'->b v w'):a0k P o a w b:=by grind[a0k,Calls.mono]
def yl(a:O Oper)(ρ:Nat->A5)(g:Nat):A3 Bool:=match(a[g]?).bind (·.dst)with
 |some d=>match ρ d with|.bool b=>some b|_=>none
 |none=>none
abbrev Fact:=Nat×(A5->World->Prop)
def fact(F:O Fact)(i:Nat)(ρ:Nat->A5)(w:World):Prop:=match F[i]?with|some f=>f.2 (ρ f.1) w|none=>True
def hdV:A5->A3 Nat|.pointer (some a)=>some a.block|.slice (some a) _ _=>some a.block|.map (some b)=>some b|_=>none
structure Plan where B:O (O Nat)U:O (O Nat)E:O (O Nat)mu:O Nat:=[]con:O (Nat×Nat):=[]nw:O (Nat×Nat):=[]tb:O (Nat×Nat):=[]
namespace Plan
def b(p:Plan)(i:Nat):O Nat:=p.B.getD i []
def okB(p:Plan)(a:O Oper):Bool:=(List.range a.length).all λi=>(p.b i).all λj=>match a[i]?with|some o=>o.after.toList.any λx=>Region.binds .any x&&decide (x.on<i)&&(x.on==j||(p.b x.on).contains j)|none=>false
def okAfter(a:O Oper):Bool:=(List.range a.length).all λi=>match a[i]?with|some o=>o.after.toList.all λx=>!Region.binds .any x||decide (x.on<i)|none=>false
def okTmps(a:O Oper)(n:Nat):Bool:=a.all λo=>o.op.operands.toList.all (Operand.below n)&&(match o.dst with|some d=>decide (d<n)|none=>true)
def okSel(a:O Oper):Bool:=a.all λo=>match o.op with|.select _ _=>false|_=>true
end Plan
section
variable {P:Program} {ops:O Oper} {n:Nat} {G:Nat -> Prop} {ρ0:Nat -> A5} {w0:World} {F:O Fact} {p:Plan}
def f2m{m:Nat}{q:Nat->Bool}(h:(List.range m).all q=true){i:Nat}(a:i<m):q i=true:=by grind
def e69(c:Plan.okTmps ops n=true)(ρ:Nat->A5){b:O Deferred}(g:Nat):yielded ops.toArray (Frd n ρ b).tmps g=yl ops ρ g:=by unfold yielded yl;simp [getElem?_toArray];cases f:(ops[g]?).bind _ with|none=>simp|some d=>
   simp [qA];rw[g85 ρ (by cases a:ops[g]?with|none=>simp_all|some o=>have e:=qX.1 c o (qE a);simp_all)];grind
def c0s(g:Plan.okTmps ops n=true)(d:Plan.okSel ops=true){i:Nat}{o:Oper}(h:ops[i]?=some o)(ρ:Nat->A5){f:O Deferred}:execOp (Frd n ρ f).eval o=execOp (ev ρ) o:=by
 have c:=qE h;refine execOp_congr o (λk b j=>?_) (λx e=>?_);.have a:=qX.1 d o c;simp_all
 .have a:=qX.1 g o c;simp only[qB]at a;exact b75 (qX.1 a.1 x (Array.mem_toList_iff.2 e))
def d0p:Code->Bool|.seq a b=>d0p a&&d0p b|.cond _ a b=>d0p a&&d0p b|.block _ c|.loop c|.scope c=>d0p c|.rangeFunc _ _ _ _=>false|_=>true
def e2p{a b:Code}{r:A3 Nat}(h:r=none\/(d0p a&&d0p b)=true):(r=none\/d0p a=true)/\(r=none\/d0p b=true):=by grind
def WP(P:Program)(n:Nat)(c:Code)(Q:Exit->(Nat->A5)->World->Prop)(ρ:Nat->A5)(w:World):Prop:=∀(r:A3 Nat)(d:O Deferred),(r=none\/d0p c=true)->c.wpIn (FR r) 9 P (λe a w=>∃b,a=Frd n b d/\Q e b w) (Frd n ρ d) w
end
section
variable {P:Program} {n:Nat} {Q:Exit -> (Nat -> A5) -> World -> Prop} {ρ:Nat -> A5} {w:World}
def c11:∀(n:Nat)(l:O Nat),l.Nodup->(∀i∈l,i<n)->l.length<=n
 |0,l,_,h=>by cases l with|nil=>simp|cons x r=>exact absurd (h x (by simp)) (by omega)
 |n+1,l,a,h=>by
   by_cases e:n∈l;.have c:=c11 n _ (a.erase n) (λi d=>by grind);simp_all
   .have c:=c11 n l a (λi d=>by grind);omega
def d78(K:(Nat->A5)->World->Prop)(Q:Exit->(Nat->A5)->World->Prop):Exit->(Nat->A5)->World->Prop|.normal,ρ,w=>K ρ w|e,ρ,w=>Q e ρ w
def e48(id:Nat)(Q:Exit->(Nat->A5)->World->Prop):Exit->(Nat->A5)->World->Prop|.exit a,ρ,w=>if a=id then Q .normal ρ w else Q (.exit a) ρ w|e,ρ,w=>Q e ρ w
def WP.skip(h:Q .normal ρ w):WP P n .skip Q ρ w:=λ_ _ _=>wpIn_skip (by grind)
def WP.exit{id:Nat}(h:Q (.exit id) ρ w):WP P n (.exit id) Q ρ w:=λ_ _ _=>wpIn_exit (by grind)
def WP.ret(h:Q .ret ρ w):WP P n .ret Q ρ w:=λ_ _ _=>wpIn_ret (by grind)
def WP.seq{x y:Code}(h:WP P n x (d78 (WP P n y Q) Q) ρ w):WP P n (.seq x y) Q ρ w:=by intro r c f;let⟨g,i⟩:=e2p f;refine wpIn_seq (wpIn_mono (h r c g) ?_);rintro e a j⟨b,rfl,d⟩;cases e<;>first|exact d r c i|exact⟨b,rfl,d⟩
def WP.cond{c:Operand}{x y:Code}{t:Bool}(b:Operand.below n c=true)(i:ev ρ c=.bool t)(j:t=true->WP P n x Q ρ w)(g:t=false->WP P n y Q ρ w):WP P n (.cond c x y) Q ρ w:=by intro r a e;let⟨d,f⟩:=e2p e;exact wpIn_cond_split (by rw[b75 b,i]) (λh=>j h r a d) (λh=>g h r a f)
def WP.block{id:Nat}{c:Code}(h:WP P n c (e48 id Q) ρ w):WP P n (.block id c) Q ρ w:=by intro r f g;refine wpIn_block (wpIn_mono (h r f g) ?_);rintro e a i⟨b,rfl,d⟩;cases e<;>first|exact⟨b,rfl,d⟩|(simp [e48,Exit.inBlock]at d⊢;grind)
def WP.loop{c:Code}(I:Nat->(Nat->A5)->World->Prop)(k:Nat)(m:I k ρ w)(o:∀ρ w,¬I 0 ρ w)(d:∀k ρ w,I (k+1) ρ w->WP P n c (d78 (I k) Q) ρ w):WP P n (.loop c) Q ρ w:=by
 intro r g l;have f:∀k ρ w,I k ρ w->Code.roundsIn (FR r) 9 P c (λe a w=>∃b,a=Frd n b g/\Q e b w) k (Frd n ρ g) w:=by intro k;induction k with|zero=>simp_all|succ k j=>intro ρ w h;refine wpIn_mono (d k ρ w h r g l) ?_;rintro e a p⟨b,rfl,i⟩;cases e<;>first|exact j _ _ i|exact⟨b,rfl,i⟩
 exact wpIn_loop_rounds k (f k ρ w m)
def retQ(P:Program)(n:Nat)(fn:Func)(R:A5->World->Prop):Exit->(Nat->A5)->World->Prop|.normal,ρ,w|.ret,ρ,w=>∃v,(results fn (Fr n ρ).tmps).run P w=.ok v w/\R v w|_,_,_=>False
def Calls.of_WP{f:FuncId}{fn:Func}{c:Code}{b:O A5}{R:A5->World->Prop}(o:P.funcs[f]?=some fn)(m:fn.body=some c)(hn:fn.ntmps=n)(d:b.length<=n)(h:WP P n c (retQ P n fn R) (λt=>b.getD t undef) w):Calls P f b.toArray w λe w'=>∃v,e=.returned v/\R v w':=by
 refine calls_of_wp o m (wpIn_wide (n:=9).1 ?_);have p:({tmps:=b.toArray++Array.replicate (fn.ntmps-b.toArray.size) undef,defers:=[]})=Fr n (λt=>b.getD t undef):=by
  congr 1;apply Array.ext;.simp_all
  .intro i k l;rcases Nat.lt_or_ge i b.length with j|j;.simp[j]
   .simp[j,by omega]
 rw[p];refine wpIn_mono (h _ [] (.inl rfl)) ?_;rintro e a w'⟨q,rfl,g⟩;cases e<;>simp [retQ]at g<;>first|exact g.elim|(let⟨v,k,l⟩:=g;exact⟨rfl,v,k,v,rfl,l⟩)
end
def Plan.plain(B U E:O (O Nat))(b:O Nat)(a:O (Nat×Nat)):Plan:=⟨B,U,E,b,a,[],[]⟩
end Go.PL
namespace Go.PL
open Go
abbrev YV(P:Program)(η:Operand->A5)(w:World)(o:Oper)(v:A5):Prop:=(execOp η o).run P w=.ok (.value v) w
section
variable {P:Program} {η:Operand -> A5} {w:World} {d:A3 Tmp} {ty:TypeId} {ps:String} {af:Array Edge} {g:A3 (Nat×Bool)} {x y z:Operand} {v u:A5}
def i64(n:Int):Int:=IntKind.i64.wrap n
def u64(n:Int):Int:=IntKind.u64.wrap n
def c08(h:η x=v):YV P η w ⟨d,.move x,ty,ps,af,g⟩ v:=by subst h;rfl
def b7t(h:η x=v):YV P η w ⟨d,.assign x,ty,ps,af,g⟩ v:=by subst h;rfl
def e22{a:A5}(b:η x=.bool true)(h:η y=a):YV P η w ⟨d,.pick x y z,ty,ps,af,g⟩ a:=by simp_all[YV,execOp,asBool]
def e2v{a:A5}(b:η x=.bool false)(h:η z=a):YV P η w ⟨d,.pick x y z,ty,ps,af,g⟩ a:=by simp_all[YV,execOp,asBool]
section
variable {t t':TypeId} {k:IntKind} {a b c:Int} {q:Bool}
def g98(f:η x=.int k a)(e:η y=.int k b)(h:k.wrap (a+b)=c):YV P η w ⟨d,.binOp .add t x y t',ty,ps,af,g⟩ (.int k c):=by simp_all[YV,execOp,eqGuard,binOp,Op.intArith]
def g52(f:η x=.int k a)(e:η y=.int k b)(h:k.wrap (a-b)=c):YV P η w ⟨d,.binOp .sub t x y t',ty,ps,af,g⟩ (.int k c):=by simp_all[YV,execOp,eqGuard,binOp,Op.intArith]
def h3l(f:η x=.int k a)(e:η y=.int k b)(h:k.wrap (a*b)=c):YV P η w ⟨d,.binOp .mul t x y t',ty,ps,af,g⟩ (.int k c):=by simp_all[YV,execOp,eqGuard,binOp,Op.intArith]
def h45(f:η x=.int k a)(i:η y=.int k b)(e:b≠0)(h:k.wrap (a.tdiv b)=c):YV P η w ⟨d,.binOp .quo t x y t',ty,ps,af,g⟩ (.int k c):=by simp_all[YV,execOp,eqGuard,binOp,Op.intDiv]
def h3b(f:η x=.int k a)(i:η y=.int k b)(e:b≠0)(h:a.tmod b=c):YV P η w ⟨d,.binOp .rem t x y t',ty,ps,af,g⟩ (.int k c):=by simp_all[YV,execOp,eqGuard,binOp,Op.intDiv]
def g6f(f:η x=.int k a)(e:η y=.int k b)(h:decide (a<b)=q):YV P η w ⟨d,.binOp .lss t x y t',ty,ps,af,g⟩ (.bool q):=by simp_all[YV,execOp,eqGuard,binOp,Op.intCmp]
def h3m(f:η x=.int k a)(e:η y=.int k b)(h:decide (a<=b)=q):YV P η w ⟨d,.binOp .leq t x y t',ty,ps,af,g⟩ (.bool q):=by simp_all[YV,execOp,eqGuard,binOp,Op.intCmp]
def h2t(f:η x=.int k a)(e:η y=.int k b)(h:decide (b<a)=q):YV P η w ⟨d,.binOp .gtr t x y t',ty,ps,af,g⟩ (.bool q):=by simp_all[YV,execOp,eqGuard,binOp,Op.intCmp]
def g54(f:η x=.int k a)(e:η y=.int k b)(h:decide (b<=a)=q):YV P η w ⟨d,.binOp .geq t x y t',ty,ps,af,g⟩ (.bool q):=by simp_all[YV,execOp,eqGuard,binOp,Op.intCmp]
def h4d(f:η x=.int k a)(e:η y=.int k b)(h:(a==b)=q):YV P η w ⟨d,.binOp .eql t x y t',ty,ps,af,g⟩ (.bool q):=by simp_all[YV,execOp,eqGuard,binOp,Op.intCmp]
def h32(f:η x=.int k a)(e:η y=.int k b)(h:(a !=b)=q):YV P η w ⟨d,.binOp .neq t x y t',ty,ps,af,g⟩ (.bool q):=by simp_all[YV,execOp,eqGuard,binOp,Op.intCmp]
def f0z{p:Bool}(e:η x=.bool p)(h:(!p)=q):YV P η w ⟨d,.unOp .not t x,ty,ps,af,g⟩ (.bool q):=by simp_all[YV,execOp,Op.unary]
def h27(e:η x=.int k a)(h:k.wrap (-a)=c):YV P η w ⟨d,.unOp .neg t x,ty,ps,af,g⟩ (.int k c):=by simp_all[YV,execOp,Op.unary,Op.intArith]
end
def g1u{s t:TypeId}(a:η x=v)(h:(convert s t v).run P w=.ok u w):YV P η w ⟨d,.convert s t x,ty,ps,af,g⟩ u:=by simp[YV,execOp,a,h]
def c3e{s:TypeId}{f:Nat}(a:η x=v)(h:(Instr.fieldAt s v f).run P w=.ok u w):YV P η w ⟨d,.fieldAddr s x f,ty,ps,af,g⟩ u:=by simp[YV,execOp,a,h]
def f0s{s:TypeId}{f:Nat}(a:η x=v)(h:(Instr.field s v f).run P w=.ok u w):YV P η w ⟨d,.field s x f,ty,ps,af,g⟩ u:=by simp[YV,execOp,a,h]
def a9v{s:TypeId}{a:A5}(b:η x=v)(c:η y=a)(h:(Instr.indexAt s v a).run P w=.ok u w):YV P η w ⟨d,.indexAddr s x y,ty,ps,af,g⟩ u:=by simp_all[YV,execOp]
def d32{s:TypeId}(a:η x=v)(h:(Instr.loadAt s v).run P w=.ok u w):YV P η w ⟨d,.load s x,ty,ps,af,g⟩ u:=by simp[YV,execOp,a,h]
def f1c{i:Nat}(a:η x=v)(h:(Instr.extract v i).run P w=.ok u w):YV P η w ⟨d,.extract x i,ty,ps,af,g⟩ u:=by simp[YV,execOp,a,h]
def f0w{t:TypeId}{a:Array (Nat×Operand)}{vs:Array (Nat×A5)}(b:(a.map λ(i,x)=>(i,η x))=vs)(h:(Instr.build t vs).run P w=.ok u w):YV P η w ⟨d,.build t a,ty,ps,af,g⟩ u:=by simp_all[YV,execOp,Sem.run_bind,Result.andThen_ok,Sem.run_pure]
def f6w{t:TypeId}(a:η x=v)(h:(Builtin.len_ #[t] ty #[v]).run P w=.ok u w):YV P η w ⟨d,.call ⟨.builtin .len,#[x],#[t]⟩,ty,ps,af,g⟩ u:=by simp[YV,execOp,resolve,invoke,builtin,a,h]
end
def CA(w:World)(a:Addr)(cs:O A5):Prop:=∀j v,cs[j]?=some v->w.cell? (a.add j)=some v
def CA.sub{w:World}{a:Addr}{cs:O A5}(h:CA w a cs)(k m:Nat):CA w (a.add k) ((cs.drop k).take m):=by intro j v b;rw[Deep.add_add];refine h _ v ?_;rw[getElem?_take]at b;simp_all
def CA.one{w:World}{a:Addr}{v:A5}(h:CA w a [v]):w.cell? a=some v:=h 0 v rfl
def a2h(a:Addr)(k:Nat):(a.add k).block=a.block:=by grind[Addr.add]
def CA.of_block{w w':World}{a:Addr}{cs:O A5}(h:CA w a cs)(c:w'.heap[a.block]?=w.heap[a.block]?):CA w' a cs:=by intro j v b;rw[World.cell?_of_block (w:=w) (by rw[a2h];omega)];exact h j v b
def e9v{P:Program}{w:World}{t:TypeId}{a:Addr}{v:A5}(b:(Instr.loadAt t (.pointer (some a))).run P w=(load a).run P w)(h:CA w a [v]):(Instr.loadAt t (.pointer (some a))).run P w=.ok v w:=by rw[b];simp[h.one]
def b3v{P:Program}{w:World}{a:Addr}:∀(n i:Nat)(b:Array A5)(cs:O A5),cs.length=n->(∀j v,cs[j]?=some v->w.cell? (a.add (i+j))=some v)->(loadCellsFrom a i n b).run P w=.ok (b++cs.toArray) w|0,i,b,cs,d,_=>by have:=List.length_eq_zero_iff.1 d;subst this;simp[loadCellsFrom]|n+1,i,b,[],d,_=>by simp_all|n+1,i,b,c::cs,d,h=>by have e:=h 0 c rfl;simp [Nat.add_zero]at e;simp [loadCellsFrom,Sem.run_bind,run_load,e,Result.andThen_ok];rw[b3v n _ _ cs (by simp_all) (λj v g=>by have:=h (j+1) v (by simp_all);grind)];simp
def d6h{P:Program}{w:World}{t:TypeId}{a:Addr}{n:Nat}{cs:O A5}(c:(Instr.loadAt t (.pointer (some a))).run P w=((do pure (.agg (<-loadCells a n))):Sem A5).run P w)(hn:cs.length=n)(h:CA w a cs):(Instr.loadAt t (.pointer (some a))).run P w=.ok (.agg cs.toArray) w:=by rw[c];simp[loadCells,b3v n 0 #[] cs hn (λj v b=>by rw[Nat.zero_add];exact h j v b)]
def Mb(w:World)(b:Nat)(T:TypeId)(cs:O A5):Prop:=w.heap[b]?=some (.cells cs.toArray T (0,0))
def Mb.lt{w:World}{b:Nat}{T:TypeId}{cs:O A5}(h:Mb w b T cs):b<w.heap.size:=(qN.1 h).1
def Mb.ca{w:World}{b:Nat}{T:TypeId}{cs:O A5}(h:Mb w b T cs):CA w ⟨b,0,none⟩ cs:=by
 intro j v c;have a:(⟨b,0,none⟩:Addr).add j=⟨b,j,none⟩:=by unfold Addr.add;simp_all
 rw[a];unfold World.cell?;rw[show w.heap[b]?=some _ from h];simp_all
def Mb.frozen{w:World}{b:Nat}{T:TypeId}{cs:O A5}(h:Mb w b T cs)(j:Nat):w.frozen? ⟨b,j,none⟩=false:=by unfold World.frozen?;rw[show w.heap[b]?=some _ from h];simp
def Mb.alloc(w:World)(T:TypeId)(cs:O A5):Mb (w.alloc (.cells cs.toArray T)) w.heap.size T cs:=by show(w.heap.push _)[w.heap.size]?=_;simp
def b4d{P:Program}{b:Nat}{T:TypeId}:∀(vs:O A5)(k:Nat)(cs:O A5)(w:World),Mb w b T cs->k+vs.length<=cs.length->(∀v∈vs,v.oneCell'=true)->∃w',(storeCells ⟨b,0,none⟩ vs k).run P w=.ok () w'/\Mb w' b T (cs.take k++vs++cs.drop (k+vs.length))/\Ext (λx=>x=b) w w'
 |[],k,cs,w,h,_,_=>⟨w,by simp[storeCells],by simp_all,Ext.refl _ _⟩|v::vs,k,cs,w,h,r,j=>by
   have a:k<cs.length:=by grind
   have g:(⟨b,0,none⟩:Addr).add k=⟨b,k,none⟩:=by unfold Addr.add;simp_all
   have o:w.cell? ⟨b,k,none⟩=some cs[k]:=by rw[<-g];exact h.ca k _ (qG _)
   have f:(store ⟨b,k,none⟩ v).run P w=.ok () (w.setCell ⟨b,k,none⟩ v):=by rw[run_store P w _ v _ (j v (by simp))];simp[o,h.frozen k]
   have n:Mb (w.setCell ⟨b,k,none⟩ v) b T (cs.set k v):=by show(w.heap.modify b _)[b]?=_;rw[Array.getElem?_modify,show w.heap[b]?=some _ from h];simp
   have l:Ext _ w (w.setCell ⟨b,k,none⟩ v):=⟨rfl,rfl,rfl,by simp_all,λi _ c=>RowKit.Below.heap_setCell w _ v i c⟩;obtain⟨w',s,q,d⟩:=b4d vs (k+1) _ _ n (by grind) (λu t=>j u (by grind));refine⟨w',?_,?_,l.trans d⟩;.simp [storeCells,Sem.run_bind,g,f,Result.andThen_ok];omega
   .have e:(cs.set k v).take (k+1)++vs++(cs.set k v).drop (k+1+vs.length)=cs.take k++v::vs++cs.drop (k+(v::vs).length):=by
     rw[take_set,drop_set];have p:(cs.take (k+1)).set k v=cs.take k++[v]:=by rw[take_succ_eq_append_getElem a,set_append];simp[Nat.min_eq_left (Nat.le_of_lt a)]
     rw[p];simp[Nat.add_comm,Nat.add_left_comm]
    simp_all
structure TyR(α:Type)where
 n:Nat
 rep:(Nat->Prop)->World->O A5->α->Prop
 len:∀{G w cs x},rep G w cs x->cs.length=n
 ext:∀{G w w' cs x},rep G w cs x->Ext G w w'->rep G w' cs x
 weaken:∀{G G' w cs x},rep G w cs x->(∀b,b<w.heap.size->G' b->G b)->rep G' w cs x
def TyR.flat{b:Type}(n:Nat)(cells:b->O A5)(h:∀x,(cells x).length=n):TyR b where n:=n;rep:=λ_ _ c x=>c=cells x;len:=λa=>a▸h _;ext:=λa _=>a;weaken:=λa _=>a
def k9{c:Type}(R:TyR c)(G:Nat->Prop)(w:World)(v:A5)(l:O c):Prop:=(v=.slice none 0 0/\l=[])\/∃a b,v=.slice (some a) l.length b/\l.length<=b/\b<=maxLen/\(∀i x,l[i]?=some x->∃d,R.rep G w d x/\a.block<w.heap.size/\¬G a.block/\CA w (a.add (i*R.n)) d)
section
variable {α:Type} {R:TyR α} {G:Nat -> Prop} {w w':World} {v:A5} {l:O α}
def k9.ext(h:k9 R G w v l)(c:Ext G w w'):k9 R G w' v l:=by
 rcases h with h|⟨a,d,j,o,g,n⟩;.exact .inl h
 .refine .inr ⟨a,d,j,o,g,λi x m=>?_⟩;let⟨k,p,f,e,b⟩:=n i x m;refine⟨k,R.ext p c,Nat.lt_of_lt_of_le f c.size,e,b.of_block ?_⟩;rw[a2h];exact c.block _ f e
def k9.weaken{f:Nat->Prop}(h:k9 R G w v l)(e:∀b,b<w.heap.size->f b->G b):k9 R f w v l:=by
 rcases h with h|⟨a,d,m,r,j,p⟩;.exact .inl h
 .refine .inr ⟨a,d,m,r,j,λi x o=>?_⟩;let⟨n,q,g,k,c⟩:=p i x o;exact⟨n,R.weaken q e,g,λh=>k (e _ g h),c⟩
def k9.nil(R:TyR α)(G:Nat->Prop)(w:World):k9 R G w (.slice none 0 0) []:=.inl ⟨rfl,rfl⟩
def k9.shape(h:k9 R G w v l):∃a b,v=.slice a l.length b/\l.length<=b/\b<=maxLen:=by cases h<;>grind
def c7(l:O α)(i:Int):A3 α:=if 0<=i then l[i.toNat]?else none
def b8d{i:Int}{x:α}(h:c7 l i=some x):0<=i/\i<(l.length:Int)/\l[i.toNat]?=some x:=by grind[c7]
def k9.get(h:k9 R G w v l){i:Int}{x:α}(e:c7 l i=some x):∃a b cs,v=.slice (some a) l.length b/\(0<=i/\i<(l.length:Int))/\R.rep G w cs x/\a.block<w.heap.size/\¬G a.block/\CA w (a.add (i.toNat*R.n)) cs:=by
 let⟨f,o,m⟩:=b8d e;rcases h with⟨_,rfl⟩|⟨a,b,d,q,p,k⟩;.simp_all
 .let⟨cs,g,n,j,c⟩:=k _ _ m;exact⟨a,b,cs,d,⟨f,o⟩,g,n,j,c⟩
end
structure At(w:World)(a:Addr)(cs:O A5):Prop where
 lt:a.block<w.heap.size
 ca:CA w a cs
def k9.getF{c:Type}{n:Nat}{cells:c->O A5}{hn:∀x,(cells x).length=n}{G:Nat->Prop}{w:World}{v:A5}{l:O c}(h:k9 (TyR.flat n cells hn) G w v l){i:Int}{x:c}(e:c7 l i=some x):∃a b,v=.slice (some a) l.length b/\(0<=i/\i<(l.length:Int))/\At w (a.add (i.toNat*n)) (cells x):=by let⟨a,b,k,f,g,j,m,_,d⟩:=h.get e;subst j;exact⟨a,b,f,g,by rw[a2h];omega,d⟩
def g7a{a b:Type}{o:A3 a}{f:a->A3 b}{r:b}(h:o.bind f=some r):∃x,o=some x/\f x=some r:=by cases o<;>simp_all
def d9{σ ρ:Type}:Nat->((σ->A3 ρ)->σ->A3 ρ)->σ->A3 ρ|0,_,_=>none|k+1,f,s=>f (d9 k f) s
def FU:Nat:=2^70
def c2t(a b:Int):A3 Int:=if b=0then none else some (i64 (a.tdiv b))
def b8t(a b:Int):A3 Int:=if b=0then none else some (a.tmod b)
section
variable {P:Program} {w:World} {G:Nat -> Prop} {ρ:Nat -> A5} {F:O Fact} {p:Plan} {i:Nat}
def h2i{a:Operand->A5}{d:A3 Tmp}{ty:TypeId}{ps:String}{af:Array Edge}{g:A3 (Nat×Bool)}{T:TypeId}{x:Operand}{v u:A5}{w':World}(b:a x=v)(h:(Instr.box T v).run P w=.ok u w'):(execOp a ⟨d,.box T x,ty,ps,af,g⟩).run P w=.ok (.value u) w':=by simp[execOp,b,h]
theorem Ext.own {G G0:Nat -> Prop} {w0 w w':World} (h:Ext G0 w0 w) (hE:Ext G w w') (hG: ∀x,G x -> w0.heap.size <= x):Ext G0 w0 w':=
 ⟨hE.os.trans h.os,hE.tape.trans h.tape,hE.output.trans h.output,Nat.le_trans h.size hE.size,
  fun b hb hn=>(hE.block b (Nat.lt_of_lt_of_le hb h.size) (fun hg=>by grind)).trans (h.block b hb hn)⟩
end
section
variable {P:Program} {η:Operand -> A5} {w:World} {d:A3 Tmp} {ty:TypeId} {ps:String} {af:Array Edge} {g:A3 (Nat×Bool)} {x y z:Operand} {v u:A5}
def h0g{k:IntKind}{a b:Int}{ts:Array TypeId}(e:η x=.int k a)(c:η y=.int k b):YV P η w ⟨d,.call ⟨.builtin .max,#[x,y],ts⟩,ty,ps,af,g⟩ (.int k (max a b)):=by
 have:(if b>a then b else a)=max a b:=by omega
 simp[YV,execOp,resolve,invoke,builtin,e,c,Builtin.max_,Builtin.max2,this]
def g9u{k:IntKind}{a b:Int}{ts:Array TypeId}(e:η x=.int k a)(c:η y=.int k b):YV P η w ⟨d,.call ⟨.builtin .min,#[x,y],ts⟩,ty,ps,af,g⟩ (.int k (min a b)):=by
 have:(if b<a then b else a)=min a b:=by omega
 simp[YV,execOp,resolve,invoke,builtin,e,c,Builtin.min_,Builtin.min2,this]
def c4r{t e:TypeId}{m:Nat}{a:Addr}{n c:Nat}{i:Int}(j:P.underlying t=some (.slice e))(f:(P.info? e).map (·.size)=some m)(h:0<=i/\i<(n:Int)):(Instr.indexAt t (.slice (some a) n c) (.int .i64 i)).run P w=.ok (.pointer (some (a.add (i.toNat*m)))) w:=by cases b:P.info? e with|none=>simp_all|some q=>simp [b,Option.map_some,Option.some.injEq]at f;simp[Instr.indexAt,run_underlying j,asIntOf,h,sizeOf,typeInfo,b,f]
def d4k{t e:TypeId}{m n:Nat}{a:Addr}{i:Int}(f:P.underlying t=some (.array n e))(c:(P.info? e).map (·.size)=some m)(h:0<=i/\i<(n:Int)):(Instr.indexAt t (.pointer (some a)) (.int .i64 i)).run P w=.ok (.pointer (some (a.add (i.toNat*m)))) w:=by cases b:P.info? e with|none=>simp_all|some q=>simp [b,Option.map_some,Option.some.injEq]at c;simp[Instr.indexAt,Instr.sureAddr,run_underlying f,asIntOf,h,sizeOf,typeInfo,b,c]
def CA.elem{b:Type}{cells:b->O A5}(n:Nat)(hn:∀x,(cells x).length=n):∀{l:O b}{w:World}{a:Addr}{i:Int}{x:b},CA w a (l.flatMap cells)->c7 l i=some x->CA w (a.add (i.toNat*n)) (cells x):=by
 intro l w a i x h c;let⟨_,_,j⟩:=b8d c;generalize i.toNat=k at*;have e:∀(l:O b)(k:Nat),l[k]?=some x->((l.flatMap cells).drop (k*n)).take n=cells x:=by intro l;induction l with|nil=>simp_all|cons y r m=>intro k h;cases k with|zero=>simp_all|succ k=>rw[Nat.succ_mul,Nat.add_comm,<-drop_drop];simp_all
 have f:=h.sub (k*n) n;simp_all
end
def e1t{a:Type}{cells:a->O A5}{l:O a}(h:∀x,∀u∈cells x,u.oneCell'=true):∀u∈l.flatMap cells,u.oneCell'=true:=by grind
def a0p{a:Type}{cells:a->O A5}{n:Nat}(hn:∀x,(cells x).length=n):∀l:O a,(l.flatMap cells).length=l.length*n|[]=>by simp|x::r=>by rw[flatMap_cons,qL,hn,a0p hn r,qR,Nat.succ_mul];omega
section
variable {P:Program} {n:Nat} {Q:Exit -> (Nat -> Value) -> World -> Prop} {ρ:Nat -> Value} {w:World}
theorem m4o {fn:Func} {R:Value -> World -> Prop} {t:Tmp} {v:Value} (h:fn.results= #[.tmp t]) (ht:t<n) (hv:ρ t=v) (hR:R v w):retQ P n fn R .ret ρ w:=by
 refine ⟨v,?_,hR⟩
 simp [results,h,Frd,ht,hv]
end
theorem Calls.start {P:Program} {n:Nat} {f:FuncId} {fn:Func} {c:Code} {args:List Value} {R:Value -> World -> Prop} {w:World}
  (hf:P.funcs[f]? =some fn) (hb:fn.body=some c) (hn:fn.ntmps=n) (hargs:args.length <= n)
  (h: ∀ρ,(∀i v,args[i]? =some v -> ρ i=v) -> WP P n c (retQ P n fn R) ρ w):Calls P f args.toArray w fun e w'=> ∃v,e= .returned v /\ R v w':=
 Calls.of_WP hf hb hn hargs (h _ fun i v hv=>by simp [hv])
def Own{d:Type}(B:Nat)(E:TypeId)(n:Nat)(cells:d->O A5)(w:World)(v:A5)(l:O d):Prop:=(v=.slice none 0 0/\l=[])\/∃g c a b,v=.slice (some ⟨g,c,none⟩) l.length a/\B<=g/\w.heap[g]?=some (.cells b E (0,0))/\l.length<=a/\a<=maxLen/\c+a*n<=b.size/\(b.toList.drop c).take (l.length*n)=l.flatMap cells
section
variable {α:Type} {B:Nat} {E:TypeId} {n:Nat} {cells:α -> O A5} {w w':World} {v:A5} {l:O α}
def Own.nil(B:Nat)(E:TypeId)(n:Nat)(cells:α->O A5)(w:World):Own B E n cells w (.slice none 0 0) ([]:O α):=.inl ⟨rfl,rfl⟩
def Own.lt(h:Own B E n cells w v l){b:Nat}(a:v.ownBlock=some b):B<=b/\b<w.heap.size:=by
 rcases h with⟨c,_⟩|⟨g,e,i,d,c,j,k,_⟩;.rw[c]at a;cases a
 .rw[c]at a;let f:=qH a;grind
def Own.ext{G:Nat->Prop}(h:Own B E n cells w v l)(j:Ext G w w')(m:∀b,v.ownBlock=some b->¬G b):Own B E n cells w' v l:=by
 rcases h with k|⟨g,c,a,d,f,i,e,r⟩;.exact .inl k
 .exact .inr ⟨g,c,a,d,f,i,(j.block g (qN.1 e).1 (m g (by rw[f];rfl))).trans e,r⟩
def Own.exn(h:Own B E n cells w v l)(a:Ext noG w w'):Own B E n cells w' v l:=h.ext a (λ_ _ h=>h)
def Own.base{d:Nat}(h:Own B E n cells w v l)(i:d<=B):Own d E n cells w v l:=by
 rcases h with e|⟨g,a,c,b,f,j,r⟩;.exact .inl e
 .exact .inr ⟨g,a,c,b,f,by omega,r⟩
def Own.shape(h:Own B E n cells w v l):∃a b,v=.slice a l.length b/\l.length<=b/\b<=maxLen:=by
 rcases h with⟨c,j⟩|⟨g,d,b,e,c,_,_,i,f,_⟩;.grind
 grind
def Own.ca(h:Own B E n cells w v l){a:Addr}{m c:Nat}(d:v=.slice (some a) m c):CA w a (l.flatMap cells):=by
 rcases h with⟨e,_⟩|⟨g,o,i,f,e,_,q,_,_,p,k⟩;.grind
 .rw[e]at d;obtain⟨rfl,rfl,rfl⟩:=d;intro j u b;rw[<-k]at b;rw[getElem?_take_of_lt (by have:=(qD.1 b).1;rw[length_take]at this;omega)]at b;unfold World.cell?;rw[Addr.add_lit];simp_all
def Own.rep(h:Own B E n cells w v l){hn:∀x,(cells x).length=n}{G:Nat->Prop}(o:∀b,v.ownBlock=some b->¬G b):k9 (TyR.flat n cells hn) G w v l:=by
 have e:=λa m c(d:v=.slice (some a) m c)=>h.ca d;rcases h with⟨d,q⟩|⟨g,f,j,t,d,y,p,s,k,z,u⟩;.exact .inl ⟨d,q⟩
 .refine .inr ⟨⟨g,f,none⟩,j,d,s,k,λi x r=>⟨cells x,rfl,(qN.1 p).1,o g (by rw[d];rfl),?_⟩⟩;exact (CA.elem n hn (e _ _ _ d) (i:=(i)) (by unfold c7;simpa using r))
def Own.ofRow{m:Nat}(h:w.ownsRow B E n v m (l.flatMap cells))(b:m=l.length):Own B E n cells w v l:=by
 subst b;rcases h.2with⟨d,o⟩|⟨g,a,c,d,f,e,i,b,k,j⟩;.exact .inl (by simp_all)
 .exact .inr ⟨g,0,a,c,d,f,e,i,b,by omega,by simp_all⟩
end
def a4n{a:Type}(bytes:Nat)(l x:O a):A3 (O a):=if(l.length+x.length)*bytes<=140737488355328then some (l++x)else none
def e8h{a:Type}{bytes:Nat}{l x r:O a}(h:a4n bytes l x=some r):(l.length+x.length)*bytes<=140737488355328/\l++x=r:=by grind[a4n]
section
variable {P:Program} {w:World}
def d1y{α:Type}{B:Nat}{t ty E:TypeId}{n bytes:Nat}{cells:α->O A5}{v x:A5}{l q:O α}(hn:∀x,(cells x).length=n)(h1:∀x,∀u∈cells x,u.oneCell'=true)(X:P.underlying t=some (.slice E))(hi:(P.info? E).map (λi=>(i.zero.map (·.cells.size),i.size,i.bytes))=some (some n,n,bytes))(D:0<n)(M:0<bytes)(I:Own B E n cells w v l)(hx:∃G,k9 (TyR.flat n cells hn) G w x q)(hb:(l.length+q.length)*bytes<=140737488355328)(hB:B<=w.heap.size):∃v' w',(Builtin.append_ #[t,t] ty #[v,x]).run P w=.ok v' w'/\Own B E n cells w' v' (l++q)/\Ext (λb=>v.ownBlock=some b) w w'/\(∀b,v'.ownBlock=some b->v.ownBlock=some b\/w.heap.size<=b):=by cases h:P.info? E with|none=>simp_all|some i=>
   simp only[h,Option.map_some,Option.some.injEq,Prod.mk.injEq]at hi;let⟨hz,s,W⟩:=hi;let⟨z,V,Y⟩:=Option.map_eq_some_iff.1 hz;have hlen:l.length+q.length<=maxLen:=by have:(l.length+q.length)*1<=(l.length+q.length)*bytes:=Nat.mul_le_mul_left _ M;simp [maxLen];omega
   have fin:∀(a:Addr)(m c:Nat)(d:O A5),x=.slice (some a) m c->m=q.length->d=q.flatMap cells->(∀j u,d[j]?=some u->w.cell? (a.add j)=some u)->∃v' w',(Builtin.append_ #[t,t] ty #[v,x]).run P w=.ok v' w'/\Own B E n cells w' v' (l++q)/\Ext (λb=>v.ownBlock=some b) w w'/\(∀b,v'.ownBlock=some b->v.ownBlock=some b\/w.heap.size<=b):=by
    intro a m c d hxe T A hc;subst hxe;have J:d.length=m*n:=by rw[A,T,a0p hn]
    have L:∀u∈d,u.oneCell'=true:=by grind
    rcases I with⟨rfl,rfl⟩|⟨g,f,p,o,rfl,Z,K,hlc,hcm,hsz,htk⟩;.let⟨v',w',hr,ho,hg,_⟩:=run_append_own w w.heap.size t ty E i z n bytes X h V s W Y D _ 0 [] (World.ownsRow_nil w _ E n) a m c d J hc L (by omega) (by grind) (by omega);have hO:Own w.heap.size E n cells w' v' ([]++q):=Own.ofRow (m:=0+m) (by grind) (by grind);exact⟨v',w',hr,hO.base hB,⟨hg.os,hg.tape,hg.output,hg.size,λb hb hne=>hg.block b hb (λe=>hne e.symm)⟩,λb H=>.inr (hO.lt H).1⟩
    .have Q:=a0p hn l;have N:=Own.ca (.inr ⟨g,f,p,o,rfl,Z,K,hlc,hcm,hsz,htk⟩) rfl;by_cases C:l.length+m<=p
     .have hmn:(l.length+m)*n<=p*n:=Nat.mul_le_mul_right _ C;rw[Nat.add_mul]at hmn;have hf:=run_firstCells_some (P:=P) w i.size m a m c d (by grind) hc;have hst:=run_storeCells_at P g (f+l.length*n) E d 0 o w K (by omega) L;refine⟨.slice (some ⟨g,f,none⟩) (l.length+m) p,w.setRow g (o.toList.take (f+l.length*n)++d++o.toList.drop (f+l.length*n+d.length)).toArray,?_,?_,⟨rfl,rfl,rfl,by simp,λk _ F=>setRow_other w g k _ (λe=>F (by simp[Value.ownBlock,e]))⟩,λb H=>.inl H⟩;.rw[s]at hf;simp[Builtin.append_,run_underlying X,sizeOf,typeInfo,h,Builtin.lenOf,C,hf,Addr.add_lit,s,hst]
      .refine .inr ⟨g,f,p,_,by rw[qL,T],Z,setRow_heap w g o _ E _ K,by rw[qL];omega,hcm,?_,?_⟩;.simp only[size_toArray,qL,length_take,length_drop,Array.length_toList];omega
       .have hc1:o.toList.take (f+l.length*n)=o.toList.take f++l.flatMap cells:=by rw[take_add,htk]
        have hlo:(o.toList.take f).length=f:=by rw[length_take,Array.length_toList];omega
        rw[hc1,qQ,qQ];have:(o.toList.take f++(l.flatMap cells++(d++o.toList.drop (f+l.length*n+d.length)))).drop f=l.flatMap cells++(d++o.toList.drop (f+l.length*n+d.length)):=by simp[hlo]
        rw[this,<-qQ,flatMap_append,<-A];have R:(l++q).length*n=(l.flatMap cells++d).length:=by rw[qL,qL,Q,J,T,Nat.add_mul]
        rw[R];exact take_left
     .have hsm:=by
       have:l.length+m<=maxLen:=by omega
       simp [maxLen]at this;omega
      have hr:=run_append_grow w t ty E i z X h V ⟨g,f,none⟩ l.length p (l.flatMap cells) (by grind) N a m c d (by grind) hc (by omega) (by omega) (growslice_fits (by omega) (by rw[T,W];omega));have hge:=grownCap_ge w (l.length+m) p E;have U:=grownCap_le_maxLen w (l.length+m) p E (by omega);refine⟨_,_,hr,?_,⟨rfl,rfl,rfl,by simp,λk F _=>heap_alloc_old w.drew _ k F⟩,λb H=>?_⟩
      .refine .inr ⟨w.heap.size,0,_,_,by rw[qL,T],hB,heap_alloc_new w.drew _,by rw[qL];omega,U,?_,?_⟩;.simp only[Array.size_append,size_toArray,size_zeroCells,Y,Q,J,<-Nat.add_mul,Nat.zero_add];exact Nat.mul_le_mul_right _ (by omega)
       .simp only[Array.toList_append,qQ,drop_zero];rw[<-qQ,flatMap_append,<-A];have R:(l++q).length*n=(l.flatMap cells++d).length:=by rw[qL,qL,Q,J,T,Nat.add_mul]
        rw[R];exact take_left
      .right;obtain rfl:=qH H;exact Nat.le_refl _
   let⟨G,hx⟩:=hx;rcases hx with⟨S,hxl⟩|⟨a,p,S,_,_,hi⟩;.--anilsource
    subst hxl;subst S;refine⟨v,w,?_,by simpa using I,Ext.refl _ _,λb hb=>.inl hb⟩;rcases I with⟨hv,hl⟩|⟨g,f,p,o,hv,_,K,hnc,_⟩;.rw[hv];simp[Builtin.append_,run_underlying X,sizeOf,typeInfo,h,Builtin.lenOf,Builtin.firstCells]
    .rw[hv];simp[Builtin.append_,run_underlying X,sizeOf,typeInfo,h,Builtin.lenOf,Builtin.firstCells,hnc,storeCells]
   .refine fin a q.length p (q.flatMap cells) S rfl rfl ?_;intro j u hu;have hjl:=by have:=(qD.1 hu).1;rwa[a0p hn]at this
    have F:=(Nat.div_lt_iff_lt_mul D).2 hjl;let⟨cs,hcs,_,_,N⟩:=hi (j/n) q[j/n] (qG F);subst hcs;have hu':(cells q[j/n])[j%n]?=some u:=by
     have key:∀(q:O α)(k r:Nat),r<n->(F:k<q.length)->(q.flatMap cells)[k*n+r]?=(cells q[k])[r]?:=by intro q;induction q with|nil=>intro k r _ F;simp at F|cons y ys ih=>intro k r hr F;cases k with|zero=>simp [Nat.zero_mul,Nat.zero_add,flatMap_cons,getElem_cons_zero];rw[getElem?_append_left (by rw[hn];omega)]|succ k=>rw[flatMap_cons,getElem?_append_right (by rw[hn,Nat.succ_mul];omega),hn,Nat.succ_mul];have:=ih k r hr (by simpa using F);simp [getElem_cons_succ];rw[<-this];congr 1;omega
     have:=key q (j/n) (j%n) (Nat.mod_lt _ D) F;rw[<-this,Nat.div_add_mod' j n];omega
    have h3:=N (j%n) u hu';rw[Deep.add_add]at h3;rwa[show(TyR.flat n cells hn).n=n from rfl,Nat.div_add_mod' j n]at h3
end
def Mb.own{a:Type}{B n:Nat}{cells:a->O A5}{w:World}{b:Nat}{E:TypeId}{l:O a}{k:Nat}(h:Mb w b E (l.flatMap cells))(c:B<=b)(d:l.length=k)(f:k<=maxLen)(hn:∀x,(cells x).length=n):Own B E n cells w (.slice (some ⟨b,0,none⟩) k k) l:=by subst d;refine .inr ⟨b,0,l.length,_,rfl,c,h,Nat.le_refl _,f,by simp[a0p hn],?_⟩;have e:=(a0p hn l).symm;grind
def a1x{c:Type}(l:O c)(a b:Int):A3 (O c):=if 0<=a/\a<=b/\b<=(l.length:Int)then some ((l.drop a.toNat).take (b.toNat-a.toNat))else none
def b3y{c:Type}{l r:O c}{a b:Int}(h:a1x l a b=some r):0<=a/\a<=b/\b<=(l.length:Int)/\r=(l.drop a.toNat).take (b.toNat-a.toNat):=by grind[a1x]
def k9.cut{j:Type}{R:TyR j}{G:Nat->Prop}{w:World}{v:A5}{l r:O j}{c e:Int}(h:k9 R G w v l)(o:a1x l c e=some r):∃a b,v=.slice a l.length b/\e.toNat<=b/\k9 R G w (.slice (if b=c.toNat then a else a.map (·.add (c.toNat*R.n))) (e.toNat-c.toNat) (b-c.toNat)) r:=by
 let⟨t,B,A,m⟩:=b3y o;have k:r.length=e.toNat-c.toNat:=by rw[m,length_take,length_drop];omega
 rcases h with⟨f,rfl⟩|⟨a,b,f,y,D,g⟩
 .refine⟨none,0,f,by simp_all,.inl ⟨?_,by simp_all⟩⟩;have u:c.toNat=0:=by grind
  simp_all
 .refine⟨some a,b,f,by omega,.inr ?_⟩;by_cases s:b=c.toNat;.refine⟨a,b-c.toNat,by grind,by omega,by omega,λi x d=>?_⟩;have:r=[]:=List.length_eq_zero_iff.1 (by omega);rw[this]at d;simp at d
  .refine⟨a.add (c.toNat*R.n),b-c.toNat,by grind,by omega,by omega,λi x d=>?_⟩;rw[m,getElem?_take]at d;split at d;.rw[getElem?_drop]at d;let⟨n,p,z,C,q⟩:=g _ _ d;refine⟨n,p,by rw[a2h];omega,by rw[a2h];omega,?_⟩;rw[Deep.add_add,<-Nat.add_mul];omega
   grind
section
variable {P:Program} {w:World} {α:Type} {R:TyR α} {G:Nat -> Prop} {v:A5} {l r:O α} {t e:TypeId}
def g60{s n:A3 A5}{i j:Int}(f:P.underlying t=some (.slice e))(o:(P.info? e).map (·.size)=some R.n)(h:k9 R G w v l)(z:a1x l i j=some r)(k:(s=none/\i=0)\/s=some (.int .i64 i))(m:(n=none/\j=(l.length:Int))\/n=some (.int .i64 j)):∃u,(Instr.sliceAt t v s n none).run P w=.ok u w/\k9 R G w u r:=by let⟨a,p,A,y,d⟩:=h.cut z;let⟨E,C,D,_⟩:=b3y z;refine⟨_,?_,d⟩;cases b:P.info? e with|none=>simp_all|some q=>
   simp [b,Option.map_some,Option.some.injEq]at o;subst A;have x:(0<=j/\j<=(p)):=by omega
   have c:(0<=i/\i<=(j.toNat)):=by omega
   rcases k with⟨rfl,rfl⟩|rfl<;>rcases m with⟨rfl,B⟩|rfl
   .have g:=by omega
    simp[Instr.sliceAt,Instr.slice,run_underlying f,Instr.sliceBounds,sizeOf,typeInfo,b,g]
   .simp[Instr.sliceAt,Instr.slice,run_underlying f,Instr.sliceBounds,Instr.sliceBound,asIntOf,x,sizeOf,typeInfo,b]
   .have g:j.toNat=l.length:=by omega
    rw[g]at c;simp[Instr.sliceAt,Instr.slice,run_underlying f,Instr.sliceBounds,Instr.sliceBound,asIntOf,c,sizeOf,typeInfo,b,o,g]
   .simp[Instr.sliceAt,Instr.slice,run_underlying f,Instr.sliceBounds,Instr.sliceBound,asIntOf,x,c,sizeOf,typeInfo,b,o];omega
end
def d5y(k:IntKind)(a b:Int):Int:=k.wrap (BitVec.ofInt k.bits a&&&BitVec.ofInt k.bits b).toNat
def orK(k:IntKind)(a b:Int):Int:=k.wrap (BitVec.ofInt k.bits a|||BitVec.ofInt k.bits b).toNat
def h2r(k:IntKind)(a b:Int):Int:=k.wrap (BitVec.ofInt k.bits a^^^BitVec.ofInt k.bits b).toNat
def e70(k:IntKind)(a b:Int):Int:=k.wrap (a*2^(min b.toNat k.bits))
def c8u(k:IntKind)(a b:Int):Int:=a.fdiv (2^(min b.toNat k.bits))
def g2a(k:IntKind)(a b:Int):A3 Int:=if b<0then none else some (e70 k a b)
def d0l(k:IntKind)(a b:Int):A3 Int:=if b<0then none else some (c8u k a b)
def d65{k:IntKind}{a b c:Int}(h:g2a k a b=some c):¬b<0/\e70 k a b=c:=by grind[g2a]
def d8z{k:IntKind}{a b c:Int}(h:d0l k a b=some c):¬b<0/\c8u k a b=c:=by grind[d0l]
def b3c(s:A4)(i:Int):A3 Int:=if 0<=i then(s[i.toNat]?).map (λb=>(b.toNat:Int))else none
section
variable {P:Program} {η:Operand -> A5} {w:World} {d:A3 Tmp} {ty:TypeId} {ps:String} {af:Array Edge} {g:A3 (Nat×Bool)} {x y z:Operand} {v u:A5} {t t':TypeId} {k k2:IntKind} {a b c:Int} {q:Bool}
def h25(f:η x=.int k a)(e:η y=.int k b)(h:d5y k a b=c):YV P η w ⟨d,.binOp .and t x y t',ty,ps,af,g⟩ (.int k c):=by simp_all[YV,execOp,eqGuard,binOp,Op.intBits,d5y]
def o_or(f:η x=.int k a)(e:η y=.int k b)(h:orK k a b=c):YV P η w ⟨d,.binOp .or t x y t',ty,ps,af,g⟩ (.int k c):=by simp_all[YV,execOp,eqGuard,binOp,Op.intBits,orK]
def h3g(f:η x=.int k a)(e:η y=.int k b)(h:h2r k a b=c):YV P η w ⟨d,.binOp .xor t x y t',ty,ps,af,g⟩ (.int k c):=by simp_all[YV,execOp,eqGuard,binOp,Op.intBits,h2r]
def h4c(f:η x=.int k a)(i:η y=.int k2 b)(e:¬b<0)(h:e70 k a b=c):YV P η w ⟨d,.binOp .shl t x y t',ty,ps,af,g⟩ (.int k c):=by subst h;simp[YV,execOp,f,i,eqGuard,binOp,Op.shift,e,e70]
def h3d(f:η x=.int k a)(i:η y=.int k2 b)(e:¬b<0)(h:c8u k a b=c):YV P η w ⟨d,.binOp .shr t x y t',ty,ps,af,g⟩ (.int k c):=by subst h;simp[YV,execOp,f,i,eqGuard,binOp,Op.shift,e,c8u]
def g5o{s:A4}(f:η x=.string s)(i:η y=.int k2 b)(m:P.underlying t=some .string)(h:b3c s b=some c):YV P η w ⟨d,.index t x y,ty,ps,af,g⟩ (.int .u8 c):=by
 unfold b3c at h;split at h;.rename_i l;let⟨r,j,e⟩:=Option.map_eq_some_iff.1 h;subst e;simp[YV,execOp,f,i,Instr.index,asIntOf,run_underlying m,l,j]
 grind
def h3y{e f:Array A5}{r:Bool}(l:η x=.agg e)(m:η y=.agg f)(i:P.eqGuardType P.depth t=false)(h:(Op.equalIn 10000 t (.agg e) (.agg f)).run P w=.ok r w)(j:r=q):YV P η w ⟨d,.binOp .eql t x y t',ty,ps,af,g⟩ (.bool q):=by simp_all[YV,execOp,Sem.run_bind,Result.andThen_ok,Sem.run_pure,run_eqGuard_agg,run_eql_struct]
def h42{e f:Array A5}{r:Bool}(l:η x=.agg e)(m:η y=.agg f)(i:P.eqGuardType P.depth t=false)(h:(Op.equalIn 10000 t (.agg e) (.agg f)).run P w=.ok r w)(j:(!r)=q):YV P η w ⟨d,.binOp .neq t x y t',ty,ps,af,g⟩ (.bool q):=by simp_all[YV,execOp,Sem.run_bind,Result.andThen_ok,Sem.run_pure,run_eqGuard_agg,run_neq_struct]
def g7c{p r:Bool}(f:η x=.bool p)(i:η y=.bool r)(e:P.underlying t=some .bool)(h:(p==r)=q):YV P η w ⟨d,.binOp .eql t x y t',ty,ps,af,g⟩ (.bool q):=by simp_all[YV,execOp,eqGuard,binOp,run_equal_bool]
def g7v{p r:Bool}(f:η x=.bool p)(i:η y=.bool r)(e:P.underlying t=some .bool)(h:(p !=r)=q):YV P η w ⟨d,.binOp .neq t x y t',ty,ps,af,g⟩ (.bool q):=by cases r<;>simp_all[YV,execOp,eqGuard,binOp,run_equal_bool]
def e5f{fn:Fn}{e:Array Operand}{cs:Array A5}(h:e.map η=cs):YV P η w ⟨d,.makeFunc fn #[] e,ty,ps,af,g⟩ (.func fn #[] cs):=by simp_all[YV,execOp,Instr.makeFunc]
end
def g44{P:Program}{w:World}{d:Nat}{b a:Array A5}{l:O Field}(c:l.isEmpty=true):(Op.eqFields d b a l).run P w=.ok true w:=by rw[List.isEmpty_iff.1 c];simp[Op.eqFields]
def f8g{P:Program}{w:World}{d off:Nat}{t:TypeId}{c e:Array A5}{l:O Field}{a b:A5}{r s:Bool}(g:l.head?.map (λf=>(f.name != "_",f.type,f.offset))=some (true,t,off))(m:(part t c off).run P w=.ok a w)(j:(part t e off).run P w=.ok b w)(h:(Op.equalIn d t a b).run P w=.ok r w)(i:(Op.eqFields d c e l.tail).run P w=.ok s w):(Op.eqFields d c e l).run P w=.ok (r&&s) w:=by cases l with|nil=>simp_all|cons f k=>simp [head?_cons,Option.map_some,Option.some.injEq,Prod.mk.injEq,bne_iff_ne,ne_eq]at g;rw[Op.eqFields];cases r;all_goals simp_all
def a8h{a:Type}(l:O a)(i:Int)(x:a):O a:=if 0<=i then l.set i.toNat x else l
def a34{a:Type}(l:O a)(i:Int)(x:a):(a8h l i x).length=l.length:=by grind[a8h]
def d03{a:Type}{cells:a->O A5}{n:Nat}(hn:∀x,(cells x).length=n)(x:a):∀(l:O a)(k:Nat),k<l.length->(l.flatMap cells).take (k*n)++cells x++(l.flatMap cells).drop (k*n+n)=(l.set k x).flatMap cells
 |[],k,h=>by grind|y::r,0,_=>by simp_all|y::r,k+1,h=>by
   have b:(k+1)*n=(cells y).length+k*n:=by grind
   rw[flatMap_cons,set_cons_succ,flatMap_cons,<-(d03 hn x r k (by simp_all)),b,take_length_add_append,Nat.add_assoc];simp
def d8l{a:Type}{cells:a->O A5}{n:Nat}(hn:∀x,(cells x).length=n){l:O a}{i:Int}{x y:a}(h:c7 l i=some y){vs:O A5}(b:vs=cells x):(l.flatMap cells).take (i.toNat*n)++vs++(l.flatMap cells).drop (i.toNat*n+vs.length)=(a8h l i x).flatMap cells:=by let⟨c,d,_⟩:=b8d h;subst b;rw[hn,a8h,if_pos c];exact d03 hn x l _ (by omega)
section
variable {P:Program} {w:World} {G:Nat -> Prop} {ρ:Nat -> A5} {F:O Fact} {p:Plan} {i:Nat}
def b23{a:Addr}:∀(vs:O A5)(k j:Nat),(storeCells (a.add k) vs j).run P w=(storeCells a vs (k+j)).run P w:=by intro vs;induction vs generalizing w with|nil=>simp[storeCells]|cons v r b=>simp [storeCells,Sem.run_bind,Deep.add_add];grind
def c2z{t:TypeId}{x y:Operand}{ty:TypeId}{ps:String}{af:Array Edge}{g:A3 (Nat×Bool)}{h b k:Nat}{T:TypeId}{a:Addr}{vs cs c:O A5}{v:A5}(C:F[i]?=some (h,λ_ w'=>Mb w' b T cs))(f:p.mu.contains i=true)(z:∀x,x=b->G x)(r:ev ρ x=.pointer (some a))(s:a=(⟨b,0,none⟩:Addr).add k)(q:ev ρ y=v)(A:Mb w b T c)(e:∀(a:Addr)(w:World),(Instr.storeAt t (.pointer (some a)) v).run P w=(storeCells a vs).run P w)(n:k+vs.length<=c.length)(o:c.take k++vs++c.drop (k+vs.length)=cs)(l:∀u∈vs,u.oneCell'=true):a0k P ⟨none,.store t x y,ty,ps,af,g⟩ (ev ρ) w λv w'=>Ext (if p.mu.contains i then G else noG) w w'/\fact F i (b20 ρ none v) w':=by
 let⟨w',m,j,B⟩:=b4d (P:=P) vs k c w A n l;have d:(execOp (ev ρ) ⟨none,.store t x y,ty,ps,af,g⟩).run P w=.ok .skip w':=by simp[execOp,r,q,e,s,(b23 vs k 0),m]
 unfold a0k;rw[d,f];refine⟨B.mono z,?_⟩;unfold fact;simp_all
def Own.mb{j:Type}{B:Nat}{E:TypeId}{n:Nat}{cells:j->O A5}{v:A5}{l:O j}(h:Own B E n cells w v l){a:Addr}{m c:Nat}(f:v=.slice (some a) m c):∃b o cur,a=⟨b,o,none⟩/\v.ownBlock=some b/\B<=b/\Mb w b E cur/\m=l.length/\m<=c/\c<=maxLen/\o+c*n<=cur.length/\(cur.drop o).take (l.length*n)=l.flatMap cells:=by
 rcases h with⟨d,_⟩|⟨g,e,r,cur,d,s,k,t,u,x,q⟩;.grind
 .rw[d]at f;obtain⟨rfl,rfl,rfl⟩:=f;refine⟨g,e,cur.toList,rfl,by rw[d];rfl,s,?_,rfl,t,u,by omega,q⟩;simpa[Mb]using k
def d49{N:Type}{B:Nat}{E:TypeId}{n off:Nat}{cells:N->O A5}{t:TypeId}{x y:Operand}{ty:TypeId}{ps:String}{af:Array Edge}{g:A3 (Nat×Bool)}{dd m c:Nat}{a a0:Addr}{vs:O A5}{v Q:A5}{l:O N}{j:Int}{H L:N}(hF:F[i]?=some (dd,λ_ w'=>Own B E n cells w' Q (a8h l j L)))(hm:p.mu.contains i=true)(hG:∀b,Q.ownBlock=some b->G b)(hn:∀x,(cells x).length=n)(hx:ev ρ x=.pointer (some a))(hv:Q=.slice (some a0) m c)(ha:a=a0.add (j.toNat*n+off))(hy:ev ρ y=v)(hO:Own B E n cells w Q l)(hj:c7 l j=some H)(Y:∀(a:Addr)(w:World),(Instr.storeAt t (.pointer (some a)) v).run P w=(storeCells a vs).run P w)(hle:off+vs.length<=n)(X:(cells H).take off++vs++(cells H).drop (off+vs.length)=cells L)(h1:∀u∈vs,u.oneCell'=true):a0k P ⟨none,.store t x y,ty,ps,af,g⟩ (ev ρ) w λv w'=>Ext (if p.mu.contains i then G else noG) w w'/\fact F i (b20 ρ none v) w':=by
 obtain⟨b,o,f,rfl,hob,hB,hM,T,hmc,Z,hlen0,q⟩:=hO.mb hv;let⟨d,e⟩:∃d,d=f.drop o:=⟨_,rfl⟩;rw[<-e]at q;have K:c*n<=d.length:=by rw[e,length_drop];omega
 let⟨h0,hlt,M⟩:=b8d hj;have hjn:j.toNat*n+n<=l.length*n:=by rw[<-Nat.succ_mul];exact Nat.mul_le_mul_right n (by omega)
 have hln:l.length*n<=d.length:=Nat.le_trans (Nat.mul_le_mul_right n (by omega)) K;have hcl:d.length=f.length-o:=by rw[e,length_drop]
 let⟨w',hr,W,hE⟩:=b4d (P:=P) vs (o+(j.toNat*n+off)) _ w hM (by omega) h1;have J:(execOp (ev ρ) ⟨none,.store t x y,ty,ps,af,g⟩).run P w=.ok .skip w':=by
  have h3:(⟨b,o,none⟩:Addr).add (j.toNat*n+off)=(⟨b,0,none⟩:Addr).add (o+(j.toNat*n+off)):=by rw[Addr.add_lit,Addr.add_lit,Nat.zero_add]
  simp[execOp,hx,hy,Y,ha,h3,(b23 vs _ 0),hr]
 unfold a0k;rw[J,hm];refine⟨hE.mono (λc hc=>hG c (by rw[hc];omega)),?_⟩;unfold fact;rw[hF];have D:d=l.flatMap cells++d.drop (l.length*n):=by rw[<-q,take_append_drop]
 have hfl:=a0p hn l;have R:d.take (j.toNat*n+off)++vs++d.drop (j.toNat*n+off+vs.length)=(a8h l j L).flatMap cells++d.drop (l.length*n):=by
  have A:=d8l hn hj (x:=L) rfl;rw[hn]at A;have V:=by
   have s:∀(l:O N)(k:Nat),l[k]?=some H->((l.flatMap cells).drop (k*n)).take n=cells H:=by intro l;induction l with|nil=>intro k h;simp at h|cons z r ih=>intro k h;cases k with|zero=>simp at h;subst h;simp[<-hn z]|succ k=>rw[flatMap_cons,Nat.succ_mul,Nat.add_comm,<-drop_drop,<-hn z,drop_left];have:=ih k (by simpa using h);rw[<-hn z]at this;omega
   exact s l _ M
  have C:(l.flatMap cells).drop (j.toNat*n)=cells H++(l.flatMap cells).drop (j.toNat*n+n):=by rw[<-V,<-drop_drop,take_append_drop]
  have e1:d.take (j.toNat*n+off)=(l.flatMap cells).take (j.toNat*n)++(cells H).take off:=by
   conv=>lhs;rw[D]
   rw[take_append_of_le_length (by omega)];rw[take_add,C,take_append_of_le_length (by rw[hn];omega)]
  have e2:d.drop (j.toNat*n+off+vs.length)=(cells H).drop (off+vs.length)++((l.flatMap cells).drop (j.toNat*n+n)++d.drop (l.length*n)):=by
   conv=>lhs;rw[D]
   rw[drop_append_of_le_length (by omega),Nat.add_assoc,<-drop_drop,C,drop_append_of_le_length (by rw[hn];omega),qQ]
  rw[e1,e2,<-A,<-X];simp[qQ]
 have I:(f.take (o+(j.toNat*n+off))++vs++f.drop (o+(j.toNat*n+off)+vs.length)).drop o=d.take (j.toNat*n+off)++vs++d.drop (j.toNat*n+off+vs.length):=by
  have U:(f.take o).length=o:=by rw[length_take];omega
  rw[take_add,Nat.add_assoc,<-drop_drop,<-e,qQ,qQ];conv=>lhs;arg 1;rw[<-U]
  rw[drop_left,qQ]
 have S:=a34 l j L;refine .inr ⟨b,o,c,_,by rw[hv,T,S],hB,W,by omega,Z,?_,?_⟩;.simp [size_toArray,qL,length_take,length_drop];omega
 .rw[I,R,<-a0p hn,take_left]
end
def a7f(a b:A4):A3 A4:=if(a.size+b.size:Nat)<=9223372036854775807then some (a++b)else none
section
variable {P:Program} {η:Operand -> A5} {w:World} {d:A3 Tmp} {ty:TypeId} {ps:String} {af:Array Edge} {g:A3 (Nat×Bool)} {x y:Operand} {t t':TypeId} {a b c:A4} {q:Bool}
def g9p(f:η x=.string a)(e:η y=.string b)(h:(a.toList==b.toList)=q):YV P η w ⟨d,.binOp .eql t x y t',ty,ps,af,g⟩ (.bool q):=by simp_all[YV,execOp,eqGuard,binOp,Op.stringOp]
def g7f(f:η x=.string a)(e:η y=.string b)(h:(a.toList !=b.toList)=q):YV P η w ⟨d,.binOp .neq t x y t',ty,ps,af,g⟩ (.bool q):=by simp_all[YV,execOp,eqGuard,binOp,Op.stringOp,bne]
def g82(f:η x=.string a)(e:η y=.string b)(h:a7f a b=some c):YV P η w ⟨d,.binOp .add t x y t',ty,ps,af,g⟩ (.string c):=by
 unfold a7f at h;split at h
 .cases h;simp[YV,execOp,f,e,eqGuard,binOp,Op.stringOp];omega
 .cases h
end
section
variable {P:Program} {η:Operand -> A5} {w:World} {d:A3 Tmp} {ty:TypeId} {ps:String} {af:Array Edge} {g:A3 (Nat×Bool)} {x:Operand} {v:A5} {a:Addr} {i:Nat} {r:O (Nat×Operand)} {r':O (Nat×A5)}
def c5q(b:η x=.pointer (some a)):YV P η w ⟨d,.nilCheck x,ty,ps,af,g⟩ (.pointer (some a)):=by simp[YV,execOp,b]
end
def d0z(u v:A5)(n:Nat)(e:Int)(d:Nat):Prop:=∃(a:A3 Addr)(L c:Nat)(f:A3 Addr)(g:Nat),v=.slice a L c/\0<=e/\e.toNat+d=L/\u=.slice f d g/\(0<d->∃b,a=some b/\f=some (b.add (e.toNat*n)))
def d0z.shape{u v:A5}{n:Nat}{d:Int}{b:Nat}(h:d0z u v n d b):∃a c,u=.slice a b c:=by cases h<;>grind
def c72{a:Type}(l:O a)(b i:Int):A3 a:=if 0<=i then c7 l (b+i)else none
def d0z.getF{j:Type}{B:Nat}{E:TypeId}{n:Nat}{cells:j->O A5}{hn:∀x,(cells x).length=n}{w:World}{u v:A5}{l:O j}{f:Int}{d:Nat}(h:d0z u v n f d)(s:Own B E n cells w v l){i:Int}{x:j}(k:c72 l f i=some x):∃a g,u=.slice (some a) d g/\(0<=i/\i<(d:Int))/\At w (a.add (i.toNat*n)) (cells x):=by
 unfold c72 at k;split at k
 .rename_i p;let⟨a,L,c,z,t,m,o,D,C,y⟩:=h;let⟨b,g,e,q,G⟩:=k9.getF (Own.rep (hn:=hn) s (λ_ _ h=>h)) k;rw[m]at e;obtain⟨rfl,rfl,rfl⟩:=e;let⟨A,F,r⟩:=y (by omega);refine⟨b.add (f.toNat*n),t,by simp_all,⟨p,(by omega)⟩,?_⟩;rw[Deep.add_add,<-Nat.add_mul];have:(f+i).toNat=f.toNat+i.toNat:=by omega
  simp_all
 simp_all
section
variable {P:Program} {w:World} {G:Nat -> Prop} {ρ:Nat -> A5} {F:O Fact} {p:Plan} {i:Nat} {α:Type} {B:Nat} {E:TypeId} {n:Nat} {cells:α -> O A5} {v:A5} {l r:O α} {t:TypeId} {x lo hi:Operand} {a b:Int}
 {ty:TypeId} {ps:String} {af:Array Edge} {g:A3 (Nat×Bool)} {dd:Tmp} {Φ:A5 -> World -> Prop}
def c6c(hn:∀x,(cells x).length=n):∀(l:O α)(k:Nat),(l.flatMap cells).drop (k*n)=(l.drop k).flatMap cells|[],k=>by simp|y::l,0=>by simp|y::l,k+1=>by rw[flatMap_cons,drop_succ_cons,Nat.succ_mul,Nat.add_comm,<-drop_drop,<-hn y,drop_left,hn y,c6c hn l k]
end
def b5l{a:Type}(z:a)(l:O a)(b:Int):O a:=l.take b.toNat++List.replicate (l.length-b.toNat) z
def d74{c:Type}{cells:c->O A5}{z:c}{a:Array A5}(f:a.toList=cells z)(i:0<a.size)(m:Nat):(Builtin.zeroCells a m).toList=(List.replicate m z).flatMap cells:=by
 have g:(cells z).length=a.size:=by grind
 apply ext_getElem?;intro k;have b:∀(m k:Nat),((List.replicate m z).flatMap cells)[k]?=if k<m*a.size then some a[k%a.size]!else none:=by intro m;induction m with|zero=>simp_all|succ m e=>
    intro k;rw[replicate_succ,flatMap_cons];by_cases d:k<a.size;.rw[getElem?_append_left (by omega),Nat.mod_eq_of_lt d,if_pos (by grind),<-f];simp[d]
    .rw[getElem?_append_right (by omega),g,e];have h:(k-a.size)%a.size=k%a.size:=by rw[Nat.mod_eq_sub_mod (by omega:k>=a.size)]
     rw[h];congr 1;rw[Nat.succ_mul,eq_iff_iff];omega
 rw[b];unfold Builtin.zeroCells;split<;>simp_all
def e5y{P:Program}{w:World}{G:Nat->Prop}{ρ:Nat->A5}{F:O Fact}{p:Plan}{i:Nat}{J:Type}{B:Nat}{E:TypeId}{n:Nat}{cells:J->O A5}{v u K:A5}{l:O J}{z:J}{t:TypeId}{x:Operand}{a:Int}{d:Nat}{ty:TypeId}{ps:String}{af:Array Edge}{g:A3 (Nat×Bool)}{dd:Nat}(hF:F[i]?=some (dd,λ_ w'=>Own B E n cells w' v (b5l z l a)))(hm:p.mu.contains i=true)(hG:∀b,v.ownBlock=some b->G b)(hn:∀x,(cells x).length=n)(h1:∀x,∀u∈cells x,u.oneCell'=true)(hn0:0<n)(hx:ev ρ x=u)(X:P.underlying t=some (.slice E))(hz:∀w,(zeroValue E).run P w=.ok K w)(U:K.cells.toList=cells z)(hV:d0z u v n a d)(Y:Own B E n cells w v l):a0k P ⟨none,.call ⟨.builtin .clear,#[x],#[t]⟩,ty,ps,af,g⟩ (ev ρ) w λv w'=>Ext (if p.mu.contains i then G else noG) w w'/\fact F i (b20 ρ none v) w':=by
 let⟨ad,L,c,a',c',hv,H,hL,Z,hp⟩:=hV;have T:L=l.length:=by let⟨_,_,hv2,_,_⟩:=Y.shape;simp_all
 have Q:0<K.cells.size:=by
  have:K.cells.toList.length=n:=by simp_all
  simp at this;omega
 by_cases I:d=0
 .have s:b5l z l a=l:=by unfold b5l;rw[show l.length-a.toNat=0 by omega,take_of_length_le (by omega)];simp
  have m:(execOp (ev ρ) ⟨none,.call ⟨.builtin .clear,#[x],#[t]⟩,ty,ps,af,g⟩).run P w=.ok (.value (.tuple #[])) w:=by subst I;cases a'<;>simp[execOp,resolve,invoke,builtin,hx,Z,Builtin.clear_,run_underlying X]
  unfold a0k;rw[m];refine⟨Ext.refl _ _,?_⟩;unfold fact;rw[hF,s];omega
 .let⟨b',hb,S⟩:=hp (by omega);subst hb;subst S;obtain⟨b,o,f,rfl,hob,hB,hM,hml,hmc,V,hcl0,j⟩:=Y.mb hv;let⟨e,h⟩:∃e,e=f.drop o:=⟨_,rfl⟩;rw[<-h]at j;have s:c*n<=e.length:=by rw[h,length_drop];omega
  have hfl:=a0p hn l;have D:((List.replicate d z).flatMap cells).length=d*n:=by rw[a0p hn,length_replicate]
  have q:a.toNat*n+d*n=l.length*n:=by rw[<-Nat.add_mul];congr 1;omega
  have hle:a.toNat*n+((List.replicate d z).flatMap cells).length<=e.length:=by rw[D,q];exact Nat.le_trans (Nat.mul_le_mul_right n (by omega)) s
  have M:o<=f.length/\o+e.length=f.length:=by rw[h,length_drop];omega
  let⟨w',hr,R,hE⟩:=b4d (P:=P) ((List.replicate d z).flatMap cells) (o+a.toNat*n) f w hM (by omega) (e1t h1);have m:(execOp (ev ρ) ⟨none,.call ⟨.builtin .clear,#[x],#[t]⟩,ty,ps,af,g⟩).run P w=.ok (.value (.tuple #[])) w':=by
   have h2:=b23 (P:=P) (w:=w) (a:=(⟨b,0,none⟩:Addr)) ((List.replicate d z).flatMap cells) (o+a.toNat*n) 0;have h3:(⟨b,o,none⟩:Addr).add (a.toNat*n)=(⟨b,0,none⟩:Addr).add (o+a.toNat*n):=by rw[Addr.add_lit,Addr.add_lit,Nat.zero_add]
   cases d with|zero=>omega|succ d=>simp[execOp,resolve,invoke,builtin,hx,Z,Builtin.clear_,run_underlying X,hz,d74 U Q,h3,h2,hr]
  unfold a0k;rw[m];refine⟨?_,?_⟩;.rw[hm];exact hE.mono (λc hc=>hG c (by rw[hc];omega))
  unfold fact;rw[hF];have C:e=l.flatMap cells++e.drop (l.length*n):=by rw[<-j,take_append_drop]
  have A:(b5l z l a).length=l.length:=by unfold b5l;simp;omega
  have W:∀(l:O J)(k:Nat),k<=l.length->(l.flatMap cells).take (k*n)=(l.take k).flatMap cells:=by intro l;induction l with|nil=>simp|cons y l ih=>intro k hk;cases k with|zero=>simp|succ k=>rw[take_succ_cons,flatMap_cons,flatMap_cons,Nat.succ_mul,Nat.add_comm,<-hn y,take_length_add_append,hn y,ih k (by simpa using hk)]
  have N:e.take (a.toNat*n)++(List.replicate d z).flatMap cells++e.drop (a.toNat*n+((List.replicate d z).flatMap cells).length)=(b5l z l a).flatMap cells++e.drop (l.length*n):=by
   rw[D,q];have e1:e.take (a.toNat*n)=(l.take a.toNat).flatMap cells:=by
    conv=>lhs;rw[C]
    rw[take_append_of_le_length (by omega),W l _ (by omega)]
   have e2:l.length-a.toNat=d:=by omega
   rw[e1];unfold b5l;rw[flatMap_append,e2]
  have r:(f.take (o+a.toNat*n)++(List.replicate d z).flatMap cells++f.drop (o+a.toNat*n+((List.replicate d z).flatMap cells).length)).drop o=e.take (a.toNat*n)++(List.replicate d z).flatMap cells++e.drop (a.toNat*n+((List.replicate d z).flatMap cells).length):=by
   have H:(f.take o).length=o:=by rw[length_take];omega
   rw[take_add,Nat.add_assoc,<-drop_drop,<-h,qQ,qQ];conv=>lhs;arg 1;rw[<-H]
   rw[drop_left,qQ]
  refine .inr ⟨b,o,c,_,by rw[hv,T,A],hB,R,by omega,V,?_,?_⟩;.simp [size_toArray,qL,length_take,length_drop];omega
  .rw[r,N,<-a0p hn,take_left]
def d24{σ ρ:Type}(k:Nat)(f:(σ->A3 ρ)->σ->A3 ρ)(s:σ):d9 (k+1) f s=f (d9 k f) s:=rfl
def u8R:TyR Int:=TyR.flat 1 (λx=>[.int .u8 x]) (λ_=>rfl)
def k9.bytes{G:Nat->Prop}{w:World}{a:Addr}{n c:Nat}{l:O Int}(h:k9 u8R G w (.slice (some a) n c) l):n=l.length/\∀j x,l[j]?=some x->w.cell? (a.add j)=some (.int .u8 x):=by
 rcases h with⟨p,_⟩|⟨m,g,d,_,_,k⟩;.grind
 .cases d;refine⟨rfl,λj x i=>?_⟩;let ⟨o,f,_,_,b⟩:=k j x i;subst f;have:=b 0 _ rfl;have e:(a.add (j*u8R.n)).add 0=a.add j:=by show(a.add (j*1)).add 0=a.add j;unfold Addr.add;simp
  rw[e]at this;omega
def c6i(l:O Int):A4:=⟨(Lib.bytesOf l).toArray⟩
def i8k {P:Program}{G:Nat -> Prop}{w:World}{v:Value}{l:List Int}(h:k9 u8R G w v l):(Extern.Bytes.bytesOf v).run P w= .ok (c6i l) w:=by
 have c:=h
 rcases h with ⟨rfl,rfl⟩ | ⟨a,d,rfl,_⟩
 ·rfl
 ·obtain ⟨_,b⟩:=c.bytes
  have:=Lib.run_loadBytesX (P:=P) w l a .empty b
  unfold Extern.Bytes.bytesOf
  rw [this]
  congr 1
  apply ByteArray.ext
  simp [c6i]
def j96 (a b:List Int):Int:=Lib.compareBytes (Lib.bytesOf a) (Lib.bytesOf b)
def j05 {P:Program}{w:World}{a b:Value}{d c:List Int}{G f:Nat -> Prop}(g:k9 u8R G w a d)(e:k9 u8R f w b c):(Extern.BytealgCompare.compare #[a,b]).run P w= .ok (.int .i64 (j96 d c)) w:=by
 change Sem.run P (do pure (goInt (Extern.BytealgCompare.cmp (<- Extern.Bytes.bytesOf a) (<- Extern.Bytes.bytesOf b)))) w=_
 simp only [Sem.run_bind,Sem.run_pure,i8k g,i8k e,Result.andThen]
 rw [Lib.cmp_eq];rfl
section
variable {P:Program} {η:Operand -> A5} {w:World} {d:A3 Tmp} {ty:TypeId} {ps:String} {af:Array Edge} {g:A3 (Nat×Bool)} {x y:Operand} {t t':TypeId} {a b c:A4} {q:Bool}
def g6a{v:A5}{l:O Int}{G:Nat->Prop}(h:k9 u8R G w v l):(Conv.bytesToString v).run P w=.ok (.string (c6i l)) w:=by
 have u:=h;rcases h with⟨rfl,rfl⟩|⟨a,i,rfl,_⟩;.rfl
 .let ⟨_,o⟩:=u.bytes;rw[run_bytesToString w a _ i l (by
   have f:CA w a (l.map (Value.int .u8)):=by intro j v e;rw[getElem?_map]at e;obtain⟨x,m,rfl⟩:=Option.map_eq_some_iff.1 e;exact o j x m
   have:=b3v (P:=P) l.length 0 #[] (l.map _) (by simp) (λj v e=>by rw[Nat.zero_add];exact f j v e);simpa[loadCells]using this)];have k:∀(l:O Int)(s:A4),l.foldl (λr n=>r.push (UInt8.ofNat n.toNat)) s=⟨s.data++(Lib.bytesOf l).toArray⟩:=by intro l;induction l with|nil=>simp[Lib.bytesOf]|cons n l p=>intro s;rw[foldl_cons,p];simp[Lib.bytesOf,ByteArray.push]
  rw[k];simp[c6i]
def h2g{S T:TypeId}{v:A5}{l:O Int}{G:Nat->Prop}(i:η x=v)(e:∀(a:A3 Addr)(n c:Nat)(w:World),(convert S T (.slice a n c)).run P w=(Conv.bytesToString (.slice a n c)).run P w)(h:k9 u8R G w v l):YV P η w ⟨d,.convert S T x,ty,ps,af,g⟩ (.string (c6i l)):=by let ⟨a,c,j,_,_⟩:=h.shape;have f:=g6a (P:=P) h;rw[j]at f i;simp[YV,execOp,i,e,f,Result.andThen]
end
def It(w:World)(b:Nat)(s:A4)(p:Int):Prop:=0<=p/\w.heap[b]?=some (.stringIter s p.toNat)
def f1z(s:A4)(p:Int):A3 Int:=if p<(s.size:Int)then(if(s.get! p.toNat).toNat<128then some ((s.get! p.toNat).toNat:Int)else none)else some 0
def e6m(s:A4)(p:Int):Int:=if p<(s.size:Int)then p+1 else p
def nxV(b:Bool)(p c:Int):A5:=if b=true then .tuple #[.bool true,.int .i64 p,.int .i32 c]else .tuple #[.bool false]
section
variable {P:Program} {ρ:Nat -> A5} {w:World} {G:Nat -> Prop} {F:O Fact} {p:Plan} {i:Nat} {η:Operand -> A5} {d:A3 Tmp} {ty:TypeId} {ps:String} {af:Array Edge} {g:A3 (Nat×Bool)} {x:Operand}
def e6q{t:TypeId}{s:A4}(a:P.underlying t=some .string):(Instr.range t (.string s)).run P w=.ok (.pointer (some ⟨w.heap.size,0,none⟩)) (w.alloc (.stringIter s 0)):=by simp[Instr.range,run_underlying a,Result.andThen]
def f2e{b:Nat}{s:A4}{q c:Int}(h:It w b s q)(m:f1z s q=some c):∃w',(Instr.next (.pointer (some ⟨b,0,none⟩)) true ty).run P w=.ok (nxV (decide (q<(s.size:Int))) q c) w'/\Ext (λx=>x=b) w w'/\It w' b s (e6m s q):=by
 let ⟨u,o⟩:=h;unfold f1z at m;have a:(getObj b).run P w=.ok (.stringIter s q.toNat) w:=by simp[getObj,Sem.run,o]
 by_cases j:q<(s.size)
 .rw[if_pos j]at m;split at m;case isFalse=>cases m
  rename_i l;obtain rfl:=qH m;have k:Utf8.decode s q.toNat=((s.get! q.toNat).toNat,1):=by unfold Utf8.decode;simp[l]
  have n:(setObj b (.stringIter s (q.toNat+1))).run P w=.ok () ({w with heap:=w.heap.setIfInBounds b (.stringIter s (q.toNat+1))}):=by simp[setObj,Sem.run,o]
  refine⟨{w with heap:=w.heap.setIfInBounds b (.stringIter s (q.toNat+1))},?_,?_,?_⟩
  .have f:q.toNat<s.size:=by omega
   have v:((q.toNat))=q:=by omega
   simp[Instr.next,a,n,f,k,Result.andThen,nxV,j,goInt,v]
  .refine⟨rfl,rfl,rfl,?_,λt r y=>?_⟩;.simp
   .have:t≠b:=λe=>y e;simp[Array.getElem?_setIfInBounds,this.symm]
  .unfold e6m;rw[if_pos j];refine⟨by omega,?_⟩;rw[show(q+1).toNat=q.toNat+1by omega];simp[Array.getElem?_setIfInBounds,((qN.1 o).1)]
 .refine⟨w,?_,⟨rfl,rfl,rfl,Nat.le_refl _,λ_ _ _=>rfl⟩,?_⟩
  .have f:¬q.toNat<s.size:=by omega
   simp[Instr.next,a,f,Result.andThen,nxV,j]
  .unfold e6m;rw[if_neg j];exact⟨u,o⟩
end
end Go.PL
namespace Go.SX
open Go Go.PL
inductive PE where|f(n:Nat)|i(n:Int)
inductive AV(C:Type)(T:C->Type)where|unk|undef|nils|nilp|bool(b:Bool)|int(k:IntKind)(n:Int)|str(s:ByteArray)|val(c:C)(x:T c)|list(c:C)(l:List (T c))|rp(a:AV C T)|ref(id:Nat)|fref(id:Nat)(c:C)(p:List PE)|clo(f:FuncId)(as:List (AV C T))|tup(as:List (AV C T))|st(c:C)(as:List (AV C T))|vw(id:Nat)(c:C)(lo:Int)(n:Nat)|bnd(f:FuncId)(a:AV C T)|km(g:FuncId)(t:TypeId)(l:List (Int×Int))|vl(g:FuncId)(t:TypeId)(c:C)(l:List (T c))|mi|va(id:Nat)(c:C)(p:List PE)(k:Nat)|ifc(t:TypeId)(a:AV C T)
inductive MC(C:Type)(T:C->Type)where|never|dead|box(t:TypeId)(a:AV C T)|sl(e:TypeId)(c:C)(l:List (T c))|fz(c:C)(l:List (T c))|it(s:ByteArray)(p:Int)|mp(l:List (Int×Int))
structure Uni where
 C:Type
 T:C -> Type
 dec:DecidableEq C
 c0:C
 n:C -> Nat
 ag:C -> Bool
 lay:C -> List (Option C)
 flds: ∀c,T c -> List (AV C T)
 mkv: ∀c,List (AV C T) -> Option (T c)
 cd:TypeId -> Option C
 flat:C -> Bool
 isA:C -> Bool
 ae:C -> C
 an:C -> Nat
 al: ∀c,T c -> List (T (ae c))
 ast: ∀c,T c -> Int -> T (ae c) -> T c
 gt: ∀c,T c -> Int -> T (ae c)
 b8:C -> Bool
 t8: ∀c,T c -> Int
 tab:World -> Prop
 tb:Nat -> Prop
 gv:Nat -> Option (Sigma T)
section
variable {α:Type}
def lk(t:Nat):O (Nat×α)->A3 α|[]=>none|(k,a)::r=>bif Nat.beq k t then some a else lk t r
end
structure St(C:Type)(T:C->Type)where sl:O (Nat×AV C T)me:O (Nat×MC C T)nx:Nat
namespace St
variable {C:Type} {T:C -> Type}
def slot(σ:St C T)(t:Nat):AV C T:=match lk t σ.sl with|some a=>a|none=>.unk
def mem(σ:St C T)(id:Nat):MC C T:=match lk id σ.me with|some a=>a|none=>.never
def put(σ:St C T)(d:A3 Tmp)(a:AV C T):St C T:=match d with|some d=>⟨(d,a)::σ.sl,σ.me,σ.nx⟩|none=>σ
def app(σ:St C T)(d:A3 Tmp)(a:AV C T)(b:O (Nat×MC C T)):St C T:=(⟨σ.sl,b++σ.me,σ.nx⟩:St C T).put d a
end St
inductive Q(C:Type)(T:C->Type):Type 1where|rdT(t:Nat)(k:AV C T->Q C T)|rdM(id:Nat)(k:MC C T->Q C T)|opt{β:Type}(o:Option β)(k:β->Q C T)|cas{β:Type}(o:Option β)(n:Q C T)(k:β->Q C T)|done(v:AV C T)(ws:List (Nat×MC C T))|fail
abbrev optC{α β:Type}(o:A3 α)(n:A3 β)(f:α->A3 β):A3 β:=match o with|none=>n|some a=>f a
namespace Q
variable {C:Type} {T:C -> Type}
def eval{R:Type}(σ:St C T):Q C T->Nat->(Nat->AV C T->O (Nat×MC C T)->A3 R)->A3 R
 |.rdT t k,m,K=>match σ.slot t with|.unk=>none|a=>(k a).eval σ (m|||2^(2*t)) K
 |.rdM d k,m,K=>(k (σ.mem d)).eval σ (m|||2^(2*d+1)) K|.opt o k,m,K=>Option.bind o λb=>(k b).eval σ m K|.cas o n k,m,K=>optC o (n.eval σ m K) λb=>(k b).eval σ m K|.done v e,m,K=>K m v e|.fail,_,_=>none
def Ev(σ:St C T):Q C T->Nat->Nat->AV C T->O (Nat×MC C T)->Prop|.rdT t k,a,m,v,c=>σ.slot t≠.unk/\(k (σ.slot t)).Ev σ (a|||2^(2*t)) m v c|.rdM f k,a,m,v,c=>(k (σ.mem f)).Ev σ (a|||2^(2*f+1)) m v c|.opt o k,a,m,v,c=>∃b,o=some b/\(k b).Ev σ a m v c|.cas o n k,a,m,v,c=>(o=none/\n.Ev σ a m v c)\/∃b,o=some b/\(k b).Ev σ a m v c|.done g e,a,m,v,c=>m=a/\v=g/\c=e|.fail,_,_,_,_=>False
end Q
section
variable (P:Program) (U:Uni)
abbrev Uni.AV(U:Uni):=SX.AV U.C U.T
abbrev Uni.MC(U:Uni):=SX.MC U.C U.T
abbrev Uni.Q(U:Uni):=SX.Q U.C U.T
abbrev Uni.St(U:Uni):=SX.St U.C U.T
def cst{U:Uni}(c:U.C){a:U.C}(x:U.T a):A3 (U.T c):=match U.dec a c with|.isTrue h=>some (h▸x)|.isFalse _=>none
def b8i{U:Uni}(c:U.C){a:U.C}(x:O (U.T a)):A3 (O (U.T c)):=match U.dec a c with|.isTrue h=>some (h▸x)|.isFalse _=>none
def asz{U:Uni}:U.AV->Nat|.val c _=>U.n c|.st c _=>U.n c|_=>1
def osz{U:Uni}:A3 U.C->Nat|some c=>U.n c|none=>1
def off{U:Uni}(c:U.C)(f:Nat):Nat:=(((U.lay c).take f).map osz).sum
def inj{U:Uni}(c:U.C)(x:U.T c):U.AV:=match U.ag c with|true=>.val c x|false=>match U.flds c x with|[a]=>a|_=>.unk
def prj{U:Uni}(c:U.C)(a:U.AV):A3 (U.T c):=match U.ag c with
 |true=>match a with|.val _ x=>cst c x|.st b d=>(match U.mkv b d with|some x=>cst c x|none=>none)|_=>none
 |false=>U.mkv c [a]
def c3p{U:Uni}:A5->A3 U.AV|.bool b=>some (.bool b)|.int k n=>some (.int k n)|.string s=>some (.str s)|.slice none 0 0=>some .nils|.pointer none=>some .nilp|_=>none
def rdO{U:Uni}(x:Operand)(k:U.AV->U.Q):U.Q:=match x with
 |.tmp t=>.rdT t k|.const v=>match c3p v with|some a=>k a|none=>.fail
 |.func f=>k (.clo f [])|.global _=>.fail
def g03{U:Uni}:O Operand->(O U.AV->U.Q)->U.Q|[],k=>k []|x::r,k=>rdO x λa=>g03 r λc=>k (a::c)
def szT(t:TypeId):Nat:=match P.info? t with|some i=>i.size|none=>0
def e54(t:TypeId)(n:Nat):Bool:=match P.info? t with|some i=>Nat.beq i.size n|none=>false
def d2w(t:TypeId):Nat:=match P.info? t with|some i=>i.bytes|none=>0
def g6u(t:TypeId)(b:Bool):Bool:=match P.underlying t with|some (.struct _)=>b|some (.array _ _)=>b|some _=>!b|none=>false
def b0p{U:Uni}:U.AV->Bool|.val _ _=>true|.st _ _=>true|_=>false
def a07{U:Uni}:U.AV->A3 U.C|.val c _=>some c|.st c _=>some c|_=>none
def d3q{U:Uni}:U.AV->Bool|.bool _|.int _ _|.str _|.val _ _|.list _ _=>true|_=>false
def c06{U:Uni}:U.AV->Bool|.bool _|.int _ _|.str _|.val _ _|.list _ _=>true|.rp a=>d3q a|.nilp=>true|_=>false
def h08{U:Uni}:U.AV->Bool|.bool _|.int _ _|.str _=>true|.val c _=>U.flat c|_=>false
def eqC{U:Uni}(c a:U.C):Bool:=match U.dec c a with|.isTrue _=>true|.isFalse _=>false
def a03{U:Uni}:U.AV->Bool|.bool _|.int _ _|.str _|.val _ _|.list _ _|.nils|.ref _|.rp _|.nilp=>true|_=>false
def b3a{U:Uni}:U.AV->Bool|.st _ b=>b.all a03|a=>a03 a
def d3t{U:Uni}(a b:U.AV):Bool:=match a07 a,a07 b with|none,none=>true|some c,some d=>eqC c d|_,_=>false
def d4a{U:Uni}(a:U.AV):U.AV:=match a with|.st c b=>(match U.mkv c b with|some x=>.val c x|none=>.st c b)|a=>a
def h2e{U:Uni}:U.AV->Bool|.nils=>true|_=>false
def h1n{U:Uni}(c:U.C)(as:O U.AV):A3 U.AV:=match U.mkv c as with|some x=>(match as.any h2e with|true=>some (.st c as)|false=>some (.val c x))|none=>none
def f7q{U:Uni}:U.AV->A3 (U.C×O U.AV)|.val c x=>some (c,U.flds c x)|.st c a=>some (c,a)|_=>none
def c1d{U:Uni}:U.AV->Bool|.clo _ _|.tup _|.vw _ _ _ _|.bnd _ _|.km _ _ _|.vl _ _ _ _|.va _ _ _ _|.ifc _ _=>false|_=>true
def b33{U:Uni}(t:TypeId)(a:U.AV):Bool:=b3a a&&g6u P t (b0p a)&&e54 P t (asz a)
def f6u{U:Uni}(g:TypeId->O A5->A3 U.AV):O Field->O A5->A3 (O U.AV)|[],[]=>some []|[],_::_=>none|f::c,b=>match g f.type (b.take (szT P f.type))with|some a=>(match f6u g c (b.drop (szT P f.type))with|some e=>some (d4a a::e)|none=>none)|none=>none
def f8c{U:Uni}(g:TypeId->O A5->A3 U.AV):Nat->TypeId->O A5->A3 (O U.AV)|0,_,[]=>some []|0,_,_::_=>none|m+1,e,b=>match g e (b.take (szT P e))with|some a=>(match f8c g m e (b.drop (szT P e))with|some c=>some (d4a a::c)|none=>none)|none=>none
def f0g{U:Uni}:Nat->TypeId->O A5->A3 U.AV|0,_,_=>none|n+1,t,d=>match P.underlying t with|some (.struct f)=>(match U.cd t with|some c=>(match f6u P (f0g n) f.toList d with|some a=>(match U.ag c with|true=>h1n c a|false=>none)|none=>none)|none=>none)|some (.array m e)=>(match U.cd t with|some c=>(match f8c P (f0g n) m e d with|some a=>(match U.ag c,U.mkv c a with|true,some x=>some (.val c x)|_,_=>none)|none=>none)|none=>none)|_=>(match d with|[v]=>c3p v|_=>none)
def b7m{U:Uni}(t:TypeId):A3 U.AV:=match P.info? t with
 |some i=>match i.zero with|some z=>f0g P 100 t z.cells.toList|none=>none
 |none=>none
def binI{U:Uni}(op:BinOp)(k:IntKind)(a b:Int):U.Q:=match op with|.add=>.done (.int k (k.wrap (a+b))) []|.sub=>.done (.int k (k.wrap (a-b))) []|.mul=>.done (.int k (k.wrap (a*b))) []|.quo=>.opt (if b=0then none else some (k.wrap (a.tdiv b))) λc=>.done (.int k c) []|.rem=>.opt (if b=0then none else some (a.tmod b)) λc=>.done (.int k c) []|.and=>.done (.int k (d5y k a b)) []|.or=>.done (.int k (orK k a b)) []|.xor=>.done (.int k (h2r k a b)) []|.lss=>.done (.bool (decide (a<b))) []|.leq=>.done (.bool (decide (a<=b))) []|.gtr=>.done (.bool (decide (b<a))) []|.geq=>.done (.bool (decide (b<=a))) []|.eql=>.done (.bool (a==b)) []|.neq=>.done (.bool (a !=b)) []|_=>.fail
def eqK(k a:IntKind):Bool:=match decEq k a with|.isTrue _=>true|.isFalse _=>false
def h2n{U:Uni}(op:BinOp)(t:TypeId)(x y:U.AV):U.Q:=match x,y with
 |.int k a,.int d b=>match op with|.shl=>.opt (g2a k a b) λc=>.done (.int k c) []|.shr=>.opt (d0l k a b) λc=>.done (.int k c) []|_=>match eqK k d with|true=>binI op k a b|false=>.fail
 |.str a,.str b=>match op with|.add=>.opt (a7f a b) λc=>.done (.str c) []|.eql=>.done (.bool (a.toList==b.toList)) []|.neq=>.done (.bool (a.toList !=b.toList)) []|.lss=>.done (.bool (Op.bytesLess a.toList b.toList)) []|_=>.fail
 |.bool p,.bool r=>match P.underlying t with
   |some .bool=>match op with|.eql=>.done (.bool (p==r)) []|.neq=>.done (.bool (p !=r)) []|_=>.fail
   |_=>.fail
 |_,_=>.fail
def h1i{U:Uni}(g:TypeId->U.AV->U.AV->A3 Bool):Nat->O Field->O U.AV->O U.AV->A3 Bool
 |_,[],[],[]=>some true|o,f::d,a::h,b::e=>match(f.name != "_")&&(Nat.beq f.offset o&&(b33 P f.type a&&(b33 P f.type b&&(a03 a&&(a03 b&&Nat.beq (asz a) (asz b))))))with|true=>(match g f.type a b with|some r=>(match h1i g (o+asz a) d h e with|some q=>some (r&&q)|none=>none)|none=>none)|false=>none
 |_,_,_,_=>none
def eqA{U:Uni}:Nat->TypeId->U.AV->U.AV->A3 Bool|0,_,_,_=>none|n+1,t,a,b=>match a,b with|.int k x,.int d y=>(match P.underlying t,eqK k d with|some (.int _),true=>some (x==y)|_,_=>none)|.bool p,.bool q=>(match P.underlying t with|some .bool=>some (p==q)|_=>none)|.str p,.str q=>(match P.underlying t with|some .string=>some (p.toList==q.toList)|_=>none)|a,b=>(match f7q a,f7q b with|some (_,g),some (_,f)=>(match P.underlying t,P.stoodInHeld t with|some (.struct e),false=>h1i P (eqA n) 0 e.toList g f|_,_=>none)|_,_=>none)
def h3e{U:Uni}(op:BinOp)(t:TypeId)(a b:U.AV):U.Q:=match P.eqGuardType P.depth t,eqA P 100 t a b with|false,some r=>(match op with|.eql=>.done (.bool r) []|.neq=>.done (.bool (!r)) []|_=>.fail)|_,_=>.fail
def unQ{U:Uni}(op:UnOp)(x:U.AV):U.Q:=match op,x with|.not,.bool p=>.done (.bool (!p)) []|.neg,.int k a=>.done (.int k (k.wrap (-a))) []|_,_=>.fail
def g2y{U:Uni}(s t:TypeId)(x:U.AV):U.Q:=match P.underlying s,P.underlying t,x with|some (.int _),some (.int k),.int _ n=>.done (.int k (k.wrap n)) []|some .string,some .string,.str b=>.done (.str b) []|_,_,_=>.fail
def b88{U:Uni}:(k:Nat)->O Field->O U.AV->O U.AV×O (Nat×U.MC)
 |k,f::g,.nils::d=>match P.underlying f.type with|some (.slice e)=>(match U.cd e with|some c=>(.ref k::(b88 (k+1) g d).1,(k,.sl e c [])::(b88 (k+1) g d).2)|none=>(.nils::(b88 k g d).1,(b88 k g d).2))|_=>(.nils::(b88 k g d).1,(b88 k g d).2)
 |k,_::g,a::d=>(a::(b88 k g d).1,(b88 k g d).2)|_,_,d=>(d,[])
def g6x{U:Uni}:O Nat->U.Q->U.Q|[],q=>q|i::b,q=>.rdM i λ|.never=>g6x b q|_=>.fail
def g8o{U:Uni}(e:Nat)(t:TypeId)(a:U.AV):U.AV×O (Nat×U.MC):=match a with|.st c d=>(match P.underlying t with|some (.struct g)=>(match b88 P (e+1) g.toList d with|(b,f)=>(.st c b,f))|_=>(.st c d,[]))|a=>(a,[])
def c78{U:Uni}(d:Nat)(t:TypeId)(id:Nat)(a v:U.AV)(b:O (Nat×U.MC)):U.Q:=match g8o P d t a with|(_,[])=>.done v b|(e,m::c)=>g6x ((m::c).map (·.1)) (.done v ((id,.box t e)::((m::c)++b)))
def g7b{U:Uni}(b:Nat)(t:TypeId)(a:U.AV):U.Q:=.rdM b λ|.never=>c78 P b t b a (.ref b) [(b,.box t a)]|_=>.fail
def nav{U:Uni}:U.AV->O PE->A3 U.AV
 |a,[]=>some a|.val c x,.f n::p=>match(U.flds c x)[n]?with|some b=>nav b p|none=>none
 |.st c e,.f n::p=>match e[n]?with|some b=>nav b p|none=>none
 |.val c x,.i n::p=>match U.isA c with|true=>nav (inj (U.ae c) (U.gt c x n)) p|false=>none
 |_,_=>none
def d0o{U:Uni}(b:U.AV):U.AV->O PE->A3 U.AV
 |_,[]=>some b|.val c x,.f n::p=>match(U.flds c x)[n]?with
   |some a=>match d0o b a p with
     |some d=>match Nat.beq (asz a) (asz d)&&(b0p a==b0p d)with|true=>(U.mkv c ((U.flds c x).set n d)).map λy=>.val c y|false=>none
     |none=>none
   |none=>none
 |.st c g,.f n::p=>match g[n]?with
   |some a=>match d0o b a p with
     |some d=>match d3t a d&&a03 d with|true=>some (.st c (g.set n d))|false=>none
     |none=>none
   |none=>none
 |.val c x,.i n::p=>match U.isA c with
   |true=>match d0o b (inj (U.ae c) (U.gt c x n)) p with
     |some d=>match prj (U.ae c) d with|some y=>some (.val c (U.ast c x n y))|none=>none
     |none=>none
   |false=>none
 |_,_=>none
def g1o{U:Uni}(m:U.MC)(p:O PE)(k:U.AV->U.Q):U.Q:=match m,p with
 |.box _ (.val d x),.i n::p=>match U.isA d with
   |true=>.opt (c7 (U.al d x) n) λy=>match nav (inj (U.ae d) y) p with|some b=>k b|none=>.fail
   |false=>.fail
 |.box _ a,p=>match nav a p with|some b=>k b|none=>.fail
 |.sl _ c l,.i n::p=>.opt (c7 l n) λy=>match nav (inj c y) p with|some b=>k b|none=>.fail
 |_,_=>.fail
def d92{U:Uni}(m:U.MC)(p:O PE)(b:U.AV)(k:U.MC->U.Q):U.Q:=match m,p with
 |.box t (.val f x),.i n::p=>match U.isA f with
   |true=>.opt (c7 (U.al f x) n) λy=>match d0o b (inj (U.ae f) y) p with
     |some d=>match prj (U.ae f) d with|some g=>k (.box t (.val f (U.ast f x n g)))|none=>.fail
     |none=>.fail
   |false=>.fail
 |.box t a,p=>match d0o b a p with
   |some d=>match Nat.beq (asz a) (asz d)&&(b0p a==b0p d)&&b3a a with|true=>k (.box t d)|false=>.fail
   |none=>.fail
 |.sl e c l,.i n::p=>.opt (c7 l n) λy=>match d0o b (inj c y) p with
   |some d=>match prj c d with|some g=>k (.sl e c (a8h l n g))|none=>.fail
   |none=>.fail
 |_,_=>.fail
def g59{U:Uni}(c:U.C)(m:U.MC):Bool:=match m with|.box _ (.val a _)=>eqC c a|.box _ (.st a _)=>eqC c a|.sl _ a _=>eqC c a|_=>false
def d93{U:Uni}:O U.AV->(O U.AV->O (Nat×U.MC)->U.Q)->U.Q
 |[],k=>k [] []|.ref f::r,k=>.rdM f λm=>match m with|.sl _ c l=>d93 r λd e=>k (.list c l::d) ((f,.fz c l)::e)|.fz c l=>d93 r λd e=>k (.list c l::d) e|_=>.fail
 |a::r,k=>d93 r λd e=>k (d4a a::d) e
def c18{U:Uni}(c:U.C)(m:U.MC)(p:O PE):Bool:=match m,p with|.box _ (.val a _),.i _::_=>U.isA a&&eqC c (U.ae a)|m,_=>g59 c m
def g8f{U:Uni}(t:TypeId)(x:U.AV):U.Q:=match x with
 |.ref a=>.rdM a λm=>g1o m [] λb=>match b with
   |.st c e=>d93 e λd f=>match U.mkv c d with|some x=>(match b33 P t (.val c x:U.AV)with|true=>.done (.val c x) f|false=>.fail)|none=>.fail
   |b=>match b33 P t b with|true=>.done b []|false=>.fail
 |.fref a c p=>.rdM a λm=>match c18 c m p with
   |true=>g1o m p λb=>match b33 P t b with|true=>.done b []|false=>.fail
   |false=>.fail
 |.rp b=>match b33 P t b with|true=>.done b []|false=>.fail
 |_=>.fail
def e9z{U:Uni}(t:TypeId)(x:U.AV):U.Q:=match x with
 |.ref b=>.rdM b λm=>match m with|.box _ (.st c a)=>(match b33 P t (.st c a:U.AV)with|true=>.done (.st c a) []|false=>.fail)|_=>.fail
 |_=>.fail
def c0t{U:Uni}(id:Nat)(x:U.AV):Bool:=match x with|.ref a=>Nat.beq id a|_=>false
def g8q{U:Uni}(m:U.MC)(p:O PE)(y:U.AV):Bool:=match m,p,y with|.box _ (.st _ _),[.f _],.ref _=>true|_,_,_=>false
def e7c{U:Uni}(i:Nat)(t:TypeId)(x y:U.AV):U.Q:=match b33 P t y with
 |true=>match x with
   |.ref b=>.rdM b λm=>d92 m [] y λd=>match d with|.box f a=>c78 P i f b a .undef [(b,.box f a)]|_=>.fail
   |.fref b c p=>.rdM b λm=>match c18 c m p with
     |true=>match g8q m p y with|true=>d92 m p y λd=>.done .undef [(b,d)]|false=>match c0t b y with|true=>.fail|false=>d93 [y] λh g=>match h with|[e]=>(match b33 P t e with|true=>d92 m p e λd=>.done .undef ((b,d)::g)|false=>.fail)|_=>.fail
     |false=>.fail
   |_=>.fail
 |false=>.fail
def e11{U:Uni}(i:Nat)(t:TypeId)(x y:U.AV):U.Q:=match b33 P t y,x with
 |true,.fref b c [.f n]=>.rdM b λm=>match m with
   |.box g (.val d z)=>(match eqC c d&&!(c0t b y)with
     |true=>d92 (.box g (.st d (U.flds d z))) [.f n] y λh=>match h with|.box e a=>c78 P i e b a .undef [(b,.box e a)]|_=>.fail
     |false=>.fail)|.box g (.st d j)=>(match eqC c d&&!(c0t b y)with
     |true=>d92 (.box g (.st d j)) [.f n] y λh=>match h with|.box e a=>c78 P i e b a .undef [(b,.box e a)]|_=>.fail
     |false=>.fail)|_=>.fail
 |_,_=>.fail
def f9n{U:Uni}(c:U.C):Bool:=match U.lay c with|[none]=>true|_=>false
def e1i{U:Uni}(a:Nat)(t:TypeId):U.Q:=match P.underlying t,U.cd t,(b7m P t:A3 U.AV)with
 |some (.slice e),some b,some .nils=>(match U.cd e,f9n b with
   |some c,true=>.rdM a λ
     |.never=>.rdM (a+1) λ|.never=>.done (.ref a) [(a,.box t (.st b [.ref (a+1)])),(a+1,.sl e c [])]|_=>.fail
     |_=>.fail
   |_,_=>.fail)|_,_,_=>.fail
def g39{U:Uni}(a:Nat)(t:TypeId)(x:U.AV):U.Q:=match x,U.cd t with
 |.ref k,some b=>(match b33 P t (.ref k:U.AV)&&f9n b with
   |true=>.rdM a λ|.never=>.done (.ref a) [(a,.box t (.st b [.ref k]))]|_=>.fail
   |false=>.fail)|_,_=>.fail
def f1l{U:Uni}(t:TypeId)(x:U.AV):U.Q:=match x with
 |.ref a=>.rdM a λm=>match m with|.box _ (.st _ [.ref j])=>(match b33 P t (.ref j:U.AV)with|true=>.done (.ref j) []|false=>.fail)|_=>.fail
 |_=>.fail
def e0a{U:Uni}(t:TypeId)(x y:U.AV):U.Q:=match x,y with
 |.ref a,.ref k=>.rdM a λm=>match m with|.box b (.st c [.ref _])=>(match b33 P t (.ref k:U.AV)&&f9n c with|true=>.done .undef [(a,.box b (.st c [.ref k]))]|false=>.fail)|_=>.fail
 |_,_=>.fail
def d96{U:Uni}(t:TypeId)(x y:U.AV):U.Q:=match x,y with
 |.ref b,.ref k=>.rdM k λm=>match m with
   |.box _ a=>(match d3q a&&!(Nat.beq b k)&&b33 P t (.rp a:U.AV)with
     |true=>.rdM b λm=>match m with|.box d c=>(match Nat.beq (asz c) 1&&(b0p c==false)&&b3a c with|true=>.done .undef [(b,.box d (.rp a)),(k,.dead)]|false=>.fail)|_=>.fail
     |false=>.fail)|_=>.fail
 |_,_=>.fail
def isRf {U:Uni}:U.AV -> Bool | .ref _=>true | _=>false
def l78 {U:Uni} (fr:Nat) (t:TypeId):U.Q:=match P.info? t with
 | some i=>match i.zero with
   | some z=>match z.oneCell' with
     | true=> .rdM fr fun
       | .never=> .rdM (fr+1) fun | .never=> .done (.ref fr) [(fr,.box t (.ref (fr+1))),(fr+1,.dead)] | _=> .fail
       | _=> .fail
     | false=> .fail
   | none=> .fail
 | none=> .fail
def l7c {U:Uni} (t:TypeId) (x y:U.AV):U.Q:=match x,y with
 | .ref id,.clo f as=>(match as.all isRf&&b33 P t (.ref 0:U.AV) with
   | true=> .rdM id fun m=>match m with
     | .box t' (.ref _)=> .done .undef [(id,.box t' (.clo f as))]
     | _=> .fail
   | false=> .fail)
 | _,_=> .fail
def l92 {U:Uni} (t:TypeId) (x:U.AV):U.Q:=match x with
 | .ref id=> .rdM id fun m=>match m with
   | .box _ (.clo f as)=>(match b33 P t (.ref 0:U.AV) with | true=> .done (.clo f as) [] | false=> .fail)
   | _=> .fail
 | _=> .fail
def l8x {U:Uni} (t:TypeId) (x:Operand):U.Q:=match x with
 | .global g=>match U.gv g with
   | some y=>(match b33 P t (.val y.1 y.2:U.AV) with | true=> .done (.val y.1 y.2) [] | false=> .fail)
   | none=> .fail
 | _=> .fail
def g6l(t:TypeId):Bool:=match P.info? t with|some i=>!(Nat.beq i.size 0)|none=>false
def e7u{U:Uni}(s:TypeId)(f:Nat)(x:U.AV):U.Q:=match P.underlying s with
 |some (.struct g)=>match g[f]?with
   |some d=>match x with
     |.rp (.val c y)=>match Nat.beq (off c f) d.offset&&g6l P d.type,(U.flds c y)[f]?with|true,some b=>.done (.rp b) []|_,_=>.fail
     |.ref e=>.rdM e λm=>match m with
       |.box _ a=>match a07 a with
         |some c=>match Nat.beq (off c f) d.offset&&g6l P d.type&&decide (f<(U.lay c).length)with|true=>.done (.fref e c [.f f]) []|false=>.fail
         |none=>.fail
       |_=>.fail
     |_=>.fail
   |none=>.fail
 |_=>.fail
def c34{U:Uni}:U.C->O PE->A3 U.C
 |c,[]=>some c|c,.f n::p=>match(U.lay c)[n]?with|some (some b)=>c34 b p|_=>none
 |c,.i _::p=>match U.isA c with|true=>c34 (U.ae c) p|false=>none
def e0q{U:Uni}(s:TypeId)(f id:Nat)(c:U.C)(p:O PE):U.Q:=match P.underlying s with
 |some (.struct d)=>match d[f]?with
   |some b=>match(match p with|.i _::q=>c34 c q|_=>c34 c p)with
     |some a=>match Nat.beq (off a f) b.offset&&g6l P b.type&&decide (f<(U.lay a).length)with|true=>.done (.fref id c (p++[.f f])) []|false=>.fail
     |none=>.fail
   |none=>.fail
 |_=>.fail
def g4d{U:Uni}(s:TypeId)(f:Nat)(x:U.AV):U.Q:=match P.underlying s with
 |some (.struct d)=>match d[f]?with
   |some a=>match x with
     |.val c y=>match(U.flds c y)[f]?with
       |some b=>match Nat.beq (off c f) a.offset&&b33 P a.type b with|true=>.done b []|false=>.fail
       |none=>.fail
     |.st c e=>match e[f]?with
       |some b=>match Nat.beq (off c f) a.offset&&b33 P a.type b&&a03 b with|true=>.done b []|false=>.fail
       |none=>.fail
     |_=>.fail
   |none=>.fail
 |_=>.fail
def b2o{U:Uni}(t:TypeId)(c:U.C):Bool:=match P.underlying t with|some (.slice e)=>e54 P e (U.n c)&&g6u P e (U.ag c)&&decide (0<U.n c)|_=>false
def d14{U:Uni}(t:TypeId)(a:U.C):Bool:=match P.underlying t with|some (.array n e)=>U.isA a&&Nat.beq n (U.an a)&&e54 P e (U.n (U.ae a))|_=>false
def d0n(k:Nat)(n:Int):A3 Unit:=if 0<=n/\n<(k:Int)then some ()else none
def c68{U:Uni}(t:TypeId)(x y:U.AV):U.Q:=match y with
 |.int .i64 n=>match x with
   |.list c l=>match b2o P t c with|true=>.opt (c7 l n) λz=>.done (.rp (inj c z)) []|false=>.fail
   |.ref b=>.rdM b λm=>match m with
     |.sl _ c l=>match b2o P t c with|true=>.opt (c7 l n) λ_=>.done (.fref b c [.i n]) []|false=>.fail
     |.fz c l=>match b2o P t c with|true=>.opt (c7 l n) λz=>.done (.rp (inj c z)) []|false=>.fail
     |.box _ (.val a x)=>match d14 P t a with|true=>.opt (c7 (U.al a x) n) λ_=>.done (.fref b (U.ae a) [.i n]) []|false=>.fail
     |_=>.fail
   |.vw b c d k=>.rdM b λm=>match m with
     |.sl _ e l=>match b2o P t c&&eqC e c with|true=>.opt (c72 l d n) λ_=>.done (.fref b c [.i (d+n)]) []|false=>.fail
     |_=>.fail
   |.rp (.val a x)=>match d14 P t a with|true=>.opt (c7 (U.al a x) n) λy=>.done (.rp (inj (U.ae a) y)) []|false=>.fail
   |.fref b c p=>match(match p with|[]=>none|.i _::q=>c34 c q|.f k::q=>c34 c (.f k::q))with
     |some a=>match d14 P t a with|true=>.opt (d0n (U.an a) n) λ_=>.done (.fref b c (p++[.i n])) []|false=>.fail
     |none=>.fail
   |_=>.fail
 |_=>.fail
def e7e{U:Uni}(t:TypeId)(x y:U.AV):U.Q:=match P.underlying t,x,y with
 |some .string,.str s,.int _ n=>.opt (b3c s n) λc=>.done (.int .u8 c) []|some (.array m e),.val a x,.int .i64 n=>match U.isA a&&Nat.beq m (U.an a)&&e54 P e (U.n (U.ae a))with
   |true=>.opt (c7 (U.al a x) n) λz=>match b33 P e (inj (U.ae a) z)with|true=>.done (inj (U.ae a) z) []|false=>.fail
   |false=>.fail
 |_,_,_=>.fail
def g6q{U:Uni}:O U.AV->O Nat->O U.AV->A3 (O U.AV)
 |c,[],_=>some c|c,i::d,a::e=>match c[i]?with
   |some b=>match Nat.beq (asz a) (asz b)&&(b0p a==b0p b)with|true=>g6q (c.set i a) d e|false=>none
   |none=>none
 |_,_,[]=>none
def d4d{U:Uni}(c:U.C)(fs:O Field):Bool:=Nat.beq fs.length (U.lay c).length&&(List.range fs.length).all λi=>match fs[i]?,(U.lay c)[i]?with|some f,some o=>Nat.beq f.offset (off c i)&&e54 P f.type (osz o)|_,_=>false
def f0r{U:Uni}(t:TypeId)(f:O Nat)(as:O U.AV):U.Q:=match P.underlying t,U.cd t,b7m P t with
 |some (.struct d),some c,some z=>match f7q z with
   |some (a,g)=>match d4d P a d.toList with
     |true=>d93 as λas e=>match as.all a03,g6q g f as with
       |true,some b=>match h1n a b with|some y=>.done y e|none=>.fail
       |_,_=>.fail
     |false=>.fail
   |none=>.fail
 |_,_,_=>.fail
def g8y(t:TypeId):Bool:=match P.underlying t with|some (.array _ _)=>true|_=>false
def d9k{U:Uni}(t:TypeId)(b:O Nat)(as:O U.AV):U.Q:=match b7m P t with
 |some (.val c z)=>match d14 P t c with
   |true=>d93 as λas a=>match as.all a03,g6q (U.flds c z) b as with
     |true,some d=>match U.mkv c d with|some y=>.done (.val c y) a|none=>.fail
     |_,_=>.fail
   |false=>.fail
 |_=>.fail
def h1u{U:Uni}(c:U.C):O U.AV->A3 (O (U.T c))|[]=>some []|a::r=>match prj c a with
   |some x=>match h1u c r with|some l=>some (x::l)|none=>none
   |none=>none
def d48:Nat->O Nat->Bool|_,[]=>true|k,i::r=>Nat.beq i k&&d48 (k+1) r
def d81(e n:Nat):Bool:=match P.info? e with|some i=>(match i.zero with|some z=>Nat.beq z.cells.size n&&Nat.beq i.size n&&decide (0<n)&&decide (0<i.bytes)|none=>false)|none=>false
def c3r{U:Uni}(b:Nat)(t:TypeId)(a:Nat)(d:O Nat)(as:O U.AV):U.Q:=match P.underlying t with
 |some (.slice e)=>match U.cd e with
   |some c=>match d48 0 d&&Nat.beq d.length a&&Nat.beq as.length a&&b2o P t c&&Nat.ble (a*U.n c) 16777216&&Nat.ble a 1000000&&d81 P e (U.n c)with
     |true=>d93 as λas f=>match as.all b3a,h1u c as with
       |true,some l=>.rdM b λ|.never=>.done (.ref b) ((b,.sl e c l)::f)|_=>.fail
       |_,_=>.fail
     |false=>.fail
   |none=>.fail
 |_=>.fail
def rdL{U:Uni}(c:U.C)(x:U.AV)(k:O (U.T c)->U.Q):U.Q:=match x with
 |.list _ l=>match b8i c l with|some l=>k l|none=>.fail
 |.nils=>k []|.ref a=>.rdM a λm=>match m with
   |.sl _ _ l=>match b8i c l with|some l=>k l|none=>.fail
   |.fz _ l=>match b8i c l with|some l=>k l|none=>.fail
   |_=>.fail
 |.va a e p n=>.rdM a λm=>match c18 e m p with
   |true=>g1o m p λb=>match b with|.val d z=>(match U.isA d&&Nat.beq n (U.an d)&&Nat.ble n 1000000&&Nat.blt 0 (U.n c),b8i c (U.al d z)with|true,some l=>k l|_,_=>.fail)|_=>.fail
   |false=>.fail
 |_=>.fail
def g38(s t:TypeId):Bool:=match P.underlying s,P.underlying t with|some (.slice _),some .string=>true|_,_=>false
def h2h{U:Uni}(s:TypeId)(x:U.AV):U.Q:=match P.underlying s with
 |some (.slice e)=>match P.underlying e,U.cd e with|some (.int .u8),some c=>(match U.b8 c with|true=>rdL c x λl=>.done (.str (c6i (l.map (U.t8 c)))) []|false=>.fail)|_,_=>.fail
 |_=>.fail
def f5z(t:TypeId):Bool:=match P.underlying t with|some .string=>true|_=>false
def e6l(s:A4)(p:Int):A3 (A3 Int):=if p<(s.size:Int)then some (if(s.get! p.toNat).toNat<128then some ((s.get! p.toNat).toNat:Int)else none)else none
def f9p(t:TypeId):Bool:=match P.underlying t with|some (.map _ _)=>true|_=>false
def e9h{U:Uni}(a:Nat)(t:TypeId)(x:U.AV):U.Q:=match x with
 |.str s=>match f5z P t with
   |true=>.rdM a λ|.never=>.done (.ref a) [(a,.it s 0)]|_=>.fail
   |false=>.fail
 |.ref b=>match f9p P t with
   |true=>.rdM b λ|.mp []=>.done .mi [(b,.dead)]|_=>.fail
   |false=>.fail
 |_=>.fail
def f0b{U:Uni}(x:U.AV):U.Q:=match x with|.mi=>.done (.tup [.bool false]) []|_=>.fail
def g5i{U:Uni}(x:U.AV):U.Q:=match x with
 |.ref a=>.rdM a λ|.it s p=>.cas (e6l s p) (.done (.tup [.bool false]) [(a,.it s p)]) λr=>.opt r λc=>.done (.tup [.bool true,.int .i64 p,.int .i32 c]) [(a,.it s (p+1))]|_=>.fail
 |_=>.fail
def g1d{U:Uni}:U.AV->A3 Int|.int .i64 n=>some n|_=>none
def g66(t:TypeId):Bool:=match P.underlying t with|some (.slice _)=>true|_=>false
def h3u{U:Uni}(t:TypeId)(x:U.AV):U.Q:=match x with
 |.list _ l=>match g66 P t with|true=>.done (.int .i64 (l.length:Int)) []|false=>.fail
 |.nils=>match g66 P t with|true=>.done (.int .i64 0) []|false=>.fail
 |.str s=>match f5z P t with|true=>.done (.int .i64 (s.size:Int)) []|false=>.fail
 |.vw _ _ _ n=>match g66 P t with|true=>.done (.int .i64 (n:Int)) []|false=>.fail
 |.ref a=>match g66 P t with
   |true=>.rdM a λm=>match m with|.sl _ _ l=>.done (.int .i64 (l.length:Int)) []|.fz _ l=>.done (.int .i64 (l.length:Int)) []|_=>.fail
   |false=>.fail
 |_=>.fail
def h1q{U:Uni}(a:Nat)(e:TypeId)(c:U.C)(k:O (Nat×U.MC))(l:O (U.T c))(x:U.AV):U.Q:=rdL c x λb=>.opt (a4n (d2w P e) l b) λr=>.rdM a λ|.never=>.done (.ref a) ((a,.sl e c r)::k)|_=>.fail
def h35{U:Uni}(b:Nat)(t:TypeId)(s x:U.AV):U.Q:=match P.underlying t with
 |some (.slice e)=>match U.cd e with
   |some c=>match d81 P e (U.n c)with
     |true=>match s with
       |.nils=>h1q P b e c [] [] x|.ref a=>match c0t a x with|true=>.fail|false=>.rdM a λm=>match m with
           |.sl d f l=>match Nat.beq e d&&eqC f c,b8i c l with|true,some l=>h1q P b e c [(a,.dead)] l x|_,_=>.fail
           |_=>.fail
       |_=>.fail
     |false=>.fail
   |none=>.fail
 |_=>.fail
def c3u(s:A4)(a b:Int):A3 A4:=if 0<=a/\a<=b/\b<=(s.size:Int)then some (s.extract a.toNat b.toNat)else none
def bnd{U:Uni}(x:A3 Operand)(d:Int)(k:Int->U.Q):U.Q:=match x with|none=>k d|some o=>rdO o λa=>match g1d a with|some n=>k n|none=>.fail
def arrQ{U:Uni}(t:TypeId)(id:Nat)(c:U.C)(p:O PE)(b d:A3 Operand):U.Q:=match b,d with
 |none,none=>match(match p with|[]=>none|.i _::q=>c34 c q|.f k::q=>c34 c (.f k::q))with
   |some a=>match d14 P t a with|true=>.done (.va id c p (U.an a)) []|false=>.fail
   |none=>.fail
 |_,_=>.fail
def f0n{U:Uni}(t:TypeId)(x:U.AV)(e d:A3 Operand):U.Q:=match x with
 |.str s=>match P.underlying t with|some .string=>bnd e 0 λa=>bnd d (s.size:Int) λb=>.opt (c3u s a b) λr=>.done (.str r) []|_=>.fail
 |.list c l=>match b2o P t c with|true=>bnd e 0 λa=>bnd d (l.length:Int) λb=>.opt (a1x l a b) λr=>.done (.list c r) []|false=>.fail
 |.ref g=>.rdM g λm=>match m with
   |.sl _ c l=>match b2o P t c with|true=>bnd e 0 λa=>bnd d (l.length:Int) λb=>.opt (a1x l a b) λr=>.done (.list c r) [(g,.fz c l)]|false=>.fail
   |.fz c l=>match b2o P t c with|true=>bnd e 0 λa=>bnd d (l.length:Int) λb=>.opt (a1x l a b) λr=>.done (.list c r) []|false=>.fail
   |_=>.fail
 |.fref g c p=>arrQ P t g c p e d|.rp (.val f z)=>match e,d with|none,none=>(match d14 P t f&&Nat.ble (U.an f) 1000000with|true=>.done (.list (U.ae f) (U.al f z)) []|false=>.fail)|_,_=>.fail
 |_=>.fail
def d2i(t e:TypeId):Bool:=match P.underlying t with|some (.slice a)=>Nat.beq e a|_=>false
def g3w{U:Uni}(t:TypeId)(x:U.AV)(f d:A3 Operand):U.Q:=match x with
 |.ref b=>.rdM b λm=>match m with
   |.sl e c l=>match b2o P t c&&d2i P t e with
     |true=>bnd f 0 λa=>match d with|none=>.opt (a1x l a (l.length:Int)) λr=>.done (.vw b c a r.length) []|some _=>.fail
     |false=>.fail
   |_=>.fail
 |_=>.fail
def h41{U:Uni}(d:Nat)(t:TypeId)(x:U.AV)(h g:A3 Operand):U.Q:=match x with
 |.ref f=>.rdM f λm=>match m with
   |.sl e c l=>match b2o P t c&&d2i P t e with
     |true=>bnd h 0 λa=>bnd g (l.length:Int) λb=>.opt (a1x l a b) λr=>.rdM d λ|.never=>.done (.ref d) [(d,.sl e c r),(f,.dead)]|_=>.fail
     |false=>.fail
   |_=>.fail
 |_=>.fail
def h1h{a:Type}(z:a)(l:O a)(b:Int)(n:Nat):A3 (O a):=if 0<=b/\b.toNat+n=l.length then some (b5l z l b)else none
def e76{U:Uni}(t:TypeId)(x:U.AV):U.Q:=match x with
 |.vw b c d n=>.rdM b λm=>match m with
   |.sl e f l=>match d2i P t e&&d81 P e (U.n c),b8i c l,b7m P e with
     |true,some l,some a=>match prj c a with|some z=>.opt (h1h z l d n) λr=>.done .unk [(b,.sl e c r)]|none=>.fail
     |_,_,_=>.fail
   |_=>.fail
 |_=>.fail
def mkI{a:Type}(bytes:Nat)(z:a)(n m:Int):A3 (O a):=if 0<=n/\m=n/\(bytes:Int)*n<=281474976710656/\n<=9223372036854775807then some (List.replicate n.toNat z)else none
def c5k{U:Uni}(b:Nat)(t:TypeId)(x y:U.AV):U.Q:=match P.underlying t with
 |some (.slice e)=>match U.cd e,b7m P e,g1d x,g1d y with
   |some c,some a,some n,some m=>match d81 P e (U.n c),prj c a with
     |true,some z=>.opt (mkI (d2w P e) z n m) λr=>.rdM b λ|.never=>.done (.ref b) [(b,.sl e c r)]|_=>.fail
     |_,_=>.fail
   |_,_,_,_=>.fail
 |_=>.fail
def c63{c:Type}(l:O c)(a b m:Int):A3 (O c):=if b<=m/\m<=(l.length:Int)then a1x l a b else none
def d9n{U:Uni}(t:TypeId)(x:U.AV)(e:A3 Operand)(d mx:Operand):U.Q:=match x with
 |.list c l=>match b2o P t c with|true=>bnd e 0 λa=>bnd (some d) 0 λb=>bnd (some mx) 0 λm=>.opt (c63 l a b m) λr=>.done (.list c r) []|false=>.fail
 |.ref f=>.rdM f λm=>match m with
   |.sl _ c l=>match b2o P t c with|true=>bnd e 0 λa=>bnd (some d) 0 λb=>bnd (some mx) 0 λm=>.opt (c63 l a b m) λr=>.done (.list c r) [(f,.fz c l)]|false=>.fail
   |.fz c l=>match b2o P t c with|true=>bnd e 0 λa=>bnd (some d) 0 λb=>bnd (some mx) 0 λm=>.opt (c63 l a b m) λr=>.done (.list c r) []|false=>.fail
   |_=>.fail
 |_=>.fail
def b5r:O (Int×Int)->Int->A3 Int|[],_=>none|q::r,k=>if q.1=k then some q.2else b5r r k
def a62:O (Int×Int)->Int->Int->O (Int×Int)|[],k,v=>[(k,v)]|q::r,k,v=>if q.1=k then(k,v)::r else q::a62 r k v
def b5g(l:O (Int×Int))(k:Int):Int:=match b5r l k with|some v=>v|none=>0
def c7s(l:O (Int×Int))(k:Int):Bool:=match b5r l k with|some _=>true|none=>false
def d27(t:TypeId):Bool:=match P.underlying t with|some (.map k e)=>(match P.underlying k,P.info? e with|some (.int .i64),some i=>(match i.zero with|some (.int .i64 0)=>true|_=>false)|_,_=>false)|_=>false
def e35{U:Uni}(a:Nat):U.Q:=.rdM a λ|.never=>.done (.ref a) [(a,.mp [])]|_=>.fail
def e1g{U:Uni}(t:TypeId)(x k:U.AV)(ok:Bool):U.Q:=match x,g1d k,d27 P t with
 |.ref a,some k,true=>.rdM a λm=>match m with
   |.mp l=>match ok with|true=>.done (.tup [.int .i64 (b5g l k),.bool (c7s l k)]) []|false=>.done (.int .i64 (b5g l k)) []
   |_=>.fail
 |_,_,_=>.fail
def c62{U:Uni}(t:TypeId)(x k y:U.AV):U.Q:=match x,g1d k,g1d y,d27 P t with
 |.ref a,some k,some v,true=>.rdM a λm=>match m with|.mp l=>.done .unk [(a,.mp (a62 l k v))]|_=>.fail
 |_,_,_,_=>.fail
def d0v{U:Uni}:O (Nat×Nat)->O U.AV->O U.AV|[],l=>l|q::m,l=>(d0v m l).set q.1 .nils
def b8h{U:Uni}:O (Nat×Nat)->O U.AV->O U.AV|[],l=>l|q::m,l=>(b8h m l).set q.1 (.ref q.2)
def c71{U:Uni}(fs:O U.AV)(f:Nat):A3 Nat:=match fs[f]?with|some (.ref i)=>some i|_=>none
inductive PK(C:Type)where|v(c:C)|ls(c:C)|ow(e:TypeId)(c:C)|rp(t:TypeId)(c:C)|io(t:TypeId)(c:C)|im(t:TypeId)(c:C)(m:List (Nat×Nat))|po(b f:Nat)(e:TypeId)(c:C)|cl(f:FuncId)(cs:List C)|so(e:TypeId)(c:C)|bn(f:FuncId)(c:C)|km(g:FuncId)(t:TypeId)|vl(g:FuncId)(t:TypeId)(c:C)
inductive RK(C:Type)where|v(c:C)|ls(c:C)|ow(e:TypeId)(c:C)|bo(t:TypeId)(c:C)
@[reducible] def CapT(U:Uni):O U.C->Type|[]=>Unit|c::b=>U.T c×CapT U b
@[reducible] def PK.T(U:Uni):PK U.C->Type|.v c=>U.T c|.ls c=>O (U.T c)|.ow _ c=>O (U.T c)|.rp _ c=>U.T c|.io _ c=>U.T c|.im _ c _=>U.T c|.po _ _ _ c=>O (U.T c)|.cl _ a=>CapT U a|.so _ c=>O (U.T c)|.bn _ c=>U.T c|.km _ _=>O (Int×Int)|.vl _ _ c=>O (U.T c)
@[reducible] def RK.T(U:Uni):RK U.C->Type|.v c=>U.T c|.ls c=>O (U.T c)|.ow _ c=>O (U.T c)|.bo _ c=>A3 (U.T c)
@[reducible] def Args(U:Uni):O (PK U.C)->Type|[]=>Unit|p::b=>p.T U×Args U b
@[reducible] def Ress(U:Uni):O (RK U.C)->Type|[]=>Unit|p::b=>p.T U×Ress U b
@[reducible] def Outs(U:Uni):O (PK U.C)->Type|[]=>Unit|.io _ c::b=>U.T c×Outs U b|.im _ c _::b=>U.T c×Outs U b|.po _ _ _ c::b=>O (U.T c)×Outs U b|.so _ c::b=>O (U.T c)×Outs U b|_::b=>Outs U b
def npK{C:Type}:O (PK C)->Nat|[]=>0|.po _ _ _ _::b=>npK b|_::b=>npK b+1
def d4j{C:Type}:PK C->Bool|.po _ _ _ _=>true|_=>false
def c2u{C:Type}(a:O (PK C)):Nat->O (PK C)->Bool|_,[]=>true|i,.im _ _ m::d=>(m.all λq=>match a[q.2]?with|some (.po b f _ _)=>Nat.beq b i&&Nat.beq f q.1|_=>false)&&c2u a (i+1) d|i,_::d=>c2u a (i+1) d
def h0i{C:Type}(ps:O (PK C)):Bool:=(ps.drop (npK ps)).all d4j
def b4o{C:Type}(ps:O (PK C)):Bool:=c2u ps 0 ps&&h0i ps
structure Sig(U:Uni)where ps:O (PK U.C)rs:O (RK U.C)
inductive Kc(U:Uni)where|seq(g:FuncId)(t:TypeId)(c:Option U.C)|qy(q:Nat->List U.AV->U.Q)
structure Fent(U:Uni)where
 s:Sig U
 B:Type
 F:Args U s.ps->A3 B
 wr:B->Ress U s.rs×Outs U s.ps
 kc:A3 (Kc U):=none
abbrev Phi(U:Uni):=FuncId->O U.AV->A3 (Fent U)
def argL{U:Uni}(c:U.C)(a:U.AV)(k:O (U.T c)->O (Nat×U.MC)->U.Q):U.Q:=match a with
 |.list _ l=>match b8i c l with|some l=>k l []|none=>.fail
 |.nils=>k [] []|.ref b=>.rdM b λm=>match m with
   |.sl _ e d=>match b8i c d with|some l=>k l [(b,.fz e d)]|none=>.fail
   |.fz _ l=>match b8i c l with|some l=>k l []|none=>.fail
   |_=>.fail
 |_=>.fail
def h1o{U:Uni}(c:U.C)(b:U.AV)(k:U.T c->O (Nat×U.MC)->U.Q):U.Q:=match b with
 |.st f e=>d93 e λd a=>match U.mkv f d with|some x=>(match cst c x with|some x=>k x a|none=>.fail)|none=>.fail
 |b=>match prj c b with|some x=>k x []|none=>.fail
def rpQ{U:Uni}(e:Bool)(c:U.C)(a:U.AV)(k:U.T c->O (Nat×U.MC)->U.Q):U.Q:=match a with
 |.rp b=>match prj c b with|some x=>k x []|none=>.fail
 |.ref d=>match e with|true=>.fail|false=>.rdM d λm=>match m with|.box g b=>h1o c b λx f=>k x ((d,.dead)::f)|_=>.fail
 |_=>.fail
def h3f{U:Uni}(d:Bool):(cs:O U.C)->O U.AV->(CapT U cs->O (Nat×U.MC)->U.Q)->U.Q|[],[],k=>k () []|c::cs,a::g,k=>rpQ d c a λx f=>h3f d cs g λh b=>k (x,h) (f++b)|_,_,_=>.fail
def h3q{U:Uni}(a fs:O U.AV)(m:O (Nat×Nat)):Bool:=m.all λq=>match c71 fs q.1,a[q.2]?with|some i,some (.ref j)=>Nat.beq i j|_,_=>false
def e5a{U:Uni}(r:Bool)(u:O U.AV)(p:PK U.C)(a:U.AV)(k:p.T U->O Nat->O (Nat×U.MC)->U.Q):U.Q:=match p with
 |.v c=>match prj c a with|some x=>k x [] []|none=>.fail
 |.ls c=>argL c a λl n=>k l [] n|.ow e c=>match a with
   |.nils=>k [] [] []|.ref d=>.rdM d λm=>match m with
     |.sl q _ l=>match Nat.beq e q,b8i c l with|true,some l=>k l [d] []|_,_=>.fail
     |_=>.fail
   |_=>.fail
 |.rp t c=>rpQ r c a λx n=>k x [] n|.cl f C=>match a with
   |.clo s z=>match Nat.beq f s with|true=>h3f r C z λx n=>k x [] n|false=>.fail
   |_=>.fail
 |.bn f c=>match a with
   |.bnd s b=>match Nat.beq f s,prj c b with|true,some x=>k x [] []|_,_=>.fail
   |_=>.fail
 |.km g t=>match r,a with
   |false,.clo o [.ref i]=>.rdM i λm=>match m with
     |.box h (.ref j)=>.rdM j λm=>match m with
       |.mp l=>match Nat.beq g o&&Nat.beq t h with|true=>k l [] [(i,.dead),(j,.dead)]|false=>.fail
       |_=>.fail
     |_=>.fail
   |_,_=>.fail
 |.vl g t c=>match r,a with
   |false,.clo o [.ref i]=>.rdM i λm=>match m with
     |.box h b=>match Nat.beq g o&&Nat.beq t h,b with|true,.list _ l=>(match b8i c l with|some l=>k l [] [(i,.dead)]|none=>.fail)|true,.nils=>k [] [] [(i,.dead)]|_,_=>.fail
     |_=>.fail
   |false,.vl o h _ l=>(match Nat.beq g o&&Nat.beq t h,b8i c l with|true,some l=>k l [] []|_,_=>.fail)|_,_=>.fail
 |.po _ _ e c=>match a with
   |.ref d=>.rdM d λm=>match m with
     |.sl q _ l=>match Nat.beq e q,b8i c l with|true,some l=>k l [d] []|_,_=>.fail
     |_=>.fail
   |_=>.fail
 |.so e c=>match a with
   |.ref d=>.rdM d λm=>match m with
     |.sl q _ l=>match Nat.beq e q,b8i c l with|true,some l=>k l [d] []|_,_=>.fail
     |_=>.fail
   |_=>.fail
 |.im t c y=>match a with
   |.ref d=>.rdM d λm=>match m with
     |.box h (.st B w)=>match Nat.beq t h&&eqC c B&&h3q u w y,U.mkv c (d0v y w)with|true,some x=>k x [d] []|_,_=>.fail
     |_=>.fail
   |_=>.fail
 |.io t c=>match a with
   |.ref d=>.rdM d λm=>match m with|.box h b=>(match Nat.beq t h with|true=>h1o c b λx A=>k x [d] A|false=>.fail)|_=>.fail
   |_=>.fail
def g55{U:Uni}(d:Bool)(b:O U.AV):(ps:O (PK U.C))->O U.AV->(Args U ps->O (O Nat)->O (Nat×U.MC)->U.Q)->U.Q|[],[],k=>k () [] []|p::ps,a::h,k=>e5a d b p a λx i j=>g55 d b ps h λg f c=>k (x,g) (i::f) (j++c)|_,_,_=>.fail
def f9j{U:Uni}:O (PK U.C)->O U.AV->(O U.AV->U.Q)->U.Q
 |.im _ _ e::b,.ref d::a,k=>.rdM d λm=>match m with|.box _ (.st _ f)=>f9j b a λr=>k ((e.filterMap λq=>(c71 f q.1).map AV.ref)++r)|_=>.fail
 |_::b,_::a,k=>f9j b a k|_,_,k=>k []
def b70{U:Uni}(b:Nat):(k:Nat)->(ps:O (PK U.C))->O (O Nat)->Outs U ps->O (Nat×U.MC)|k,.io t c::ps,i::f,(x,a)=>(i.map λg=>(g,.box t (inj c x)))++b70 b (k+1) ps f a|k,.im t c m::ps,i::f,(x,a)=>(i.map λg=>(g,.box t (.st c (b8h (m.map λq=>(q.1,b+q.2)) (U.flds c x)))))++b70 b (k+1) ps f a|k,.po _ _ e c::ps,_::f,(x,a)=>(b+k,.sl e c x)::b70 b (k+1) ps f a|k,.so e c::ps,i::f,(x,a)=>(i.map λg=>(g,.sl e c x))++b70 b (k+1) ps f a|k,.ow _ _::ps,_::f,a=>b70 b (k+1) ps f a|k,.v _::ps,_::f,a=>b70 b (k+1) ps f a|k,.ls _::ps,_::f,a=>b70 b (k+1) ps f a|k,.rp _ _::ps,_::f,a=>b70 b (k+1) ps f a|k,.cl _ _::ps,_::f,a=>b70 b (k+1) ps f a|k,.bn _ _::ps,_::f,a=>b70 b (k+1) ps f a|k,.km _ _::ps,_::f,a=>b70 b (k+1) ps f a|k,.vl _ _ _::ps,_::f,a=>b70 b (k+1) ps f a|_,_,_,_=>[]
def e07{U:Uni}:(ps:O (PK U.C))->O (O Nat)->O Nat|.ow _ _::ps,i::b=>i++e07 ps b|.po _ _ _ _::ps,i::b=>i++e07 ps b|_::ps,_::b=>e07 ps b|_,_=>[]
def d23{U:Uni}:(a:Nat)->(b:O (RK U.C))->Ress U b->O U.AV×O (Nat×U.MC)|_,[],_=>([],[])|a,.v c::b,(x,f)=>let q:=d23 a b f;(inj c x::q.1,q.2)|a,.ls c::b,(x,f)=>let q:=d23 a b f;(.list c x::q.1,q.2)|a,.ow e c::b,(x,f)=>let q:=d23 (a+1) b f;(.ref a::q.1,(a,.sl e c x)::q.2)|a,.bo t c::b,(some x,f)=>let q:=d23 (a+1) b f;(.ref a::q.1,(a,.box t (inj c x))::q.2)|a,.bo t c::b,(none,f)=>let q:=d23 (a+1) b f;(.nilp::q.1,(a,.dead)::q.2)
def g6e{U:Uni}:(a:O (RK U.C))->Ress U a->(Ress U a->U.Q)->U.Q|[],_,k=>k ()|.v c::a,(x,f),k=>g6e a f λb=>k (x,b)|.ls c::a,(x,f),k=>g6e a f λb=>k (x,b)|.ow e c::a,(x,f),k=>g6e a f λb=>k (x,b)|.bo t c::a,(x,f),k=>.cas x (g6e a f λb=>k (none,b)) λy=>g6e a f λb=>k (some y,b)
def h1s{U:Uni}:O U.AV->U.AV|[a]=>a|b=>.tup b
def c6k:O (O Nat)->Bool|[]=>true|i::c=>(i.all λa=>c.all λe=>e.all λb=>!(Nat.beq a b))&&c6k c
def e8u{U:Uni}:RK U.C->Bool|.v c=>U.flat c|.ls _=>false|.ow _ c=>U.flat c|.bo _ c=>U.flat c
def d0c{U:Uni}:PK U.C->Bool|.io _ c=>U.flat c|.im _ c m=>U.flat c||(f9n c&&m.any λq=>Nat.beq q.1 0)|.po _ _ _ c=>U.flat c|.so _ c=>U.flat c|_=>true
def Sig.nf{U:Uni}(s:Sig U):Bool:=!(s.rs.all e8u&&s.ps.all d0c)
def h1m{U:Uni}(a n:Nat)(ps:O (PK U.C)):O Nat:=(List.range ps.length).filterMap λk=>match ps[k]?with|some p=>bif d4j p then some (a+n+k)else none|none=>none
def h3i{U:Uni}(a:Nat)(g:FuncId)(t:TypeId)(c:A3 U.C)(as:O U.AV):U.Q:=match c,as with
 |none,[.ref b]=>.rdM b λm=>match m with
   |.mp _=>.rdM a λ|.never=>.done (.clo g [.ref a]) [(a,.box t (.ref b))]|_=>.fail
   |_=>.fail
 |some _,[.list c l]=>.rdM a λ|.never=>.done (.clo g [.ref a]) [(a,.box t (.list c l))]|_=>.fail
 |some _,[.nils]=>.rdM a λ|.never=>.done (.clo g [.ref a]) [(a,.box t .nils)]|_=>.fail
 |_,_=>.fail
def f8h{U:Uni}(Φ:Phi U)(d:Nat)(f:FuncId)(as:O U.AV):U.Q:=match Φ f as with
 |some a=>match a.kc with|some (.seq g t c)=>h3i d g t c as|some (.qy q)=>q d as|none=>match b4o a.s.ps&&Nat.beq as.length (npK a.s.ps)with
   |true=>f9j a.s.ps as λi=>g55 a.s.nf (as++i) a.s.ps (as++i) λl e j=>match c6k (e++[j.map (·.1)])with
     |true=>.opt (a.F l) λb=>g6e a.s.rs (a.wr b).1 λr=>match d23 d a.s.rs r,b70 (d+a.s.rs.length) 0 a.s.ps e (a.wr b).2with|(k,h),n=>g6x (h.map (·.1)) (g6x (h1m d a.s.rs.length a.s.ps) (.done (h1s k) (h++(n++(((e07 a.s.ps e).map λm=>(m,.dead))++match a.s.nf with|true=>j|false=>[])))))
     |false=>.fail
   |false=>.fail
 |none=>.fail
end
end Go.SX
namespace Go.SX
open Go Go.PL
section
variable (P:Program) {U:Uni} (Φ:Phi U)
def mmQ(mx:Bool)(a b:U.AV):U.Q:=match a,b with
 |.int .i64 a,.int .i64 b=>match mx with|true=>.done (.int .i64 (max a b)) []|false=>.done (.int .i64 (min a b)) []
 |_,_=>.fail
def g8b(e x y:U.AV):U.Q:=match e,x,y with|.bool e,.bool x,.bool y=>.done (.bool (bif e then x else y)) []|_,_,_=>.fail
def h3c(a:U.AV):U.Q:=match a with
 |.ref b=>.rdM b λ|.box t a=>.done (.ref b) []|_=>.fail
 |.rp a=>.done (.rp a) []|.fref b c p=>.done (.fref b c p) []|_=>.fail
def opQ(j:Nat):Op->U.Q
 |.move x=>rdO x λa=>.done a []|.assign x=>rdO x λa=>.done a []|.pick c a b=>rdO c λe=>rdO a λx=>rdO b λy=>g8b e x y|.binOp r t x y _=>rdO x λa=>rdO y λb=>match b0p a&&b0p b with|true=>h3e P r t a b|false=>h2n P r t a b
 |.unOp r _ x=>rdO x λa=>unQ r a|.convert s t x=>rdO x λa=>match g38 P s t with|true=>h2h P s a|false=>g2y P s t a
 |.alloc t=>match b7m P t with
   |some a=>match b33 P t a with|true=>g7b P j t a|false=>.fail
   |none=>.fail
 |.box t x=>rdO x λa=>match b33 P t a with|true=>g7b P j t a|false=>.fail
 |.load t x=>rdO x λa=>g8f P t a|.store t x y=>rdO x λa=>rdO y λb=>e7c P j t a b|.fieldAddr s x f=>rdO x λ|.fref w c p=>e0q P s f w c p|a=>e7u P s f a
 |.field s x f=>rdO x λa=>g4d P s f a|.indexAddr t x y=>rdO x λa=>rdO y λb=>c68 P t a b|.index t x y=>rdO x λa=>rdO y λb=>e7e P t a b|.build t o=>g03 (o.toList.map (·.2)) λg=>match g8y P t with|true=>d9k P t (o.toList.map (·.1)) g|false=>f0r P t (o.toList.map (·.1)) g
 |.buildSlice t n o=>g03 (o.toList.map (·.2)) λg=>c3r P j t n (o.toList.map (·.1)) g|.slice t x v u none=>rdO x λa=>f0n P t a v u|.slice t x v (some u) (some B)=>rdO x λa=>d9n P t a v u B|.makeSlice t n m=>rdO n λa=>rdO m λb=>c5k P j t a b|.makeMap t none=>e35 j|.lookup t x k z=>rdO x λa=>rdO k λb=>e1g P t a b z|.mapUpdate t x k y=>rdO x λa=>rdO k λb=>rdO y λc=>c62 P t a b c|.extract x i=>rdO x λ
   |.tup g=>match g[i]?with|some a=>.done a []|none=>.fail
   |_=>.fail
 |.range t x=>rdO x λa=>e9h P j t a|.next x true=>rdO x g5i|.next x false=>rdO x f0b|.nilCheck x=>rdO x h3c|.makeInterface t x=>rdO x λa=>match P.underlying t,a with|some (.slice _),.ref w=>.done (.ifc t (.ref w)) []|_,_=>.fail
 |.makeFunc A l q=>match A,l.toList with
   |.func f,[]=>g03 q.toList λg=>match g.all c1d with|true=>.done (.clo f g) []|false=>.fail
   |.func f,[x]=>match q.toList with
     |[]=>rdO x λa=>match a with|.val c y=>.done (.bnd f (.val c y)) []|_=>.fail
     |_=>.fail
   |_,_=>.fail
 |.call ⟨.value x,d,_⟩=>rdO x λ|.clo f q=>g03 d.toList λg=>f8h Φ j f (g++q)|.bnd f (.val c y)=>g03 d.toList λg=>f8h Φ j f (.val c y::g)|_=>.fail
 |.call ⟨.builtin .len,d,h⟩=>match d.toList,h.toList with|[x],[t]=>rdO x λa=>h3u P t a|_,_=>.fail
 |.call ⟨.builtin .clear,d,h⟩=>match d.toList,h.toList with|[x],[t]=>rdO x λa=>e76 P t a|_,_=>.fail
 |.call ⟨.builtin .append,d,h⟩=>match d.toList,h.toList with
   |[x,y],[t,C]=>match Nat.beq t C with|true=>rdO x λa=>rdO y λb=>h35 P j t a b|false=>.fail
   |_,_=>.fail
 |.call ⟨.builtin .max,d,_⟩=>match d.toList with|[x,y]=>rdO x λa=>rdO y λb=>mmQ true a b|_=>.fail
 |.call ⟨.builtin .min,d,_⟩=>match d.toList with|[x,y]=>rdO x λa=>rdO y λb=>mmQ false a b|_=>.fail
 |_=>.fail
def opX (sp:List Nat) (i fr:Nat) (op:Op):U.Q:=match sp with
 | []=>opQ P Φ fr op
 | _::_=>match op with
   | .slice t x lo hi none=>match sp.any (Nat.beq (1000+i)),sp.any (Nat.beq (2000+i)) with
     | true,_=>rdO x fun a=>g3w P t a lo hi
     | false,true=>rdO x fun a=>h41 P fr t a lo hi
     | false,false=>opQ P Φ fr (.slice t x lo hi none)
   | .store t x y=>match sp.any (Nat.beq (3000+i)) with
     | true=>rdO x fun a=>rdO y fun b=>e11 P fr t a b
     | false=>match sp.any (Nat.beq (6000+i)) with
       | true=>rdO x fun a=>rdO y fun b=>e0a P t a b
       | false=>match sp.any (Nat.beq (7000+i)) with
         | true=>rdO x fun a=>rdO y fun b=>d96 P t a b
         | false=>match sp.any (Nat.beq (8000+i)) with
           | true=>rdO x fun a=>rdO y fun b=>l7c P t a b
           | false=>opQ P Φ fr (.store t x y)
   | .load t x=>match sp.any (Nat.beq (4000+i)) with
     | true=>rdO x fun a=>e9z P t a
     | false=>match sp.any (Nat.beq (6000+i)) with
       | true=>rdO x fun a=>f1l P t a
       | false=>match sp.any (Nat.beq (8000+i)) with
         | true=>rdO x fun a=>l92 P t a
         | false=>match sp.any (Nat.beq (9000+i)) with
           | true=>l8x P t x
           | false=>opQ P Φ fr (.load t x)
   | .alloc t=>match sp.any (Nat.beq (6000+i)) with
     | true=>e1i P fr t
     | false=>match sp.any (Nat.beq (8000+i)) with
       | true=>l78 P fr t
       | false=>opQ P Φ fr (.alloc t)
   | .box t x=>match sp.any (Nat.beq (6000+i)) with
     | true=>rdO x fun a=>g39 P fr t a
     | false=>opQ P Φ fr (.box t x)
   | op=>opQ P Φ fr op
def c5h(a:O Oper)(g:Nat):A3 Tmp:=match a[g]?with|some o=>o.dst|none=>none
def gq(c:O Oper)(o:Oper)(q:U.Q):U.Q:=match o.guard with|none=>q|some (g,a)=>match c5h c g with
   |some t=>.rdT t λ
     |.bool b=>match b==a with|true=>q|false=>.done .undef []
     |.undef=>.done .undef []|_=>.fail
   |none=>.fail
def f5i(o:Oper):O Nat:=o.op.operands.toList.filterMap λ|.tmp t=>some t|_=>none
def bits(l:O Nat):Nat:=l.foldl (λm k=>m|||2^k) 0
def g95(b:Nat):Nat:=(2^(2*b)-1)/3*2
def g8r(o:Oper):Nat:=match o.dst with|some d=>2^(2*d)|none=>0
def c2s(o:Oper)(a:O (Nat×U.MC)):Nat:=a.foldl (λm w=>m|||2^(2*w.1+1)) (g8r o)
def b9d(a:O Oper)(o:Oper)(b:Nat):Nat:=bits ((f5i o).map (2*.))|||g95 b|||(match o.guard with|some (g,_)=>(match c5h a g with|some t=>2^(2*t)|none=>0)|none=>0)
def e0c(b r w:Nat)(a:O (Nat×Nat×Nat)):Bool:=a.all λh=>b.testBit h.1||(Nat.beq (w&&&(h.2.1|||h.2.2)) 0&&Nat.beq (h.2.2&&&r) 0)
def e99:O Nat->O Oper->O Nat|a,[]=>a|a,o::r=>match o.after.toList.foldl (λs e=>bif Region.binds .any e then s|||2^e.on|||a.getD e.on 0 else s) 0with|0=>e99 (a++[0]) r|m+1=>e99 (a++[m+1]) r
def g6n(a:O Oper):O Nat:=e99 [] a
def e42:∀(b:O Oper)(a:O Nat),e99 a b=b.foldl (λa o=>a++[o.after.toList.foldl (λs e=>bif Region.binds .any e then s|||2^e.on|||a.getD e.on 0 else s) 0]) a:=by intro o;induction o<;>grind[e99]
def c0g(σ:U.St)(x:Operand):A3 Bool:=match x with
 |.const (.bool b)=>some b|.tmp t=>match σ.slot t with|.bool b=>some b|_=>none
 |_=>none
def c2v(g:Nat)(a:Bool)(i:Nat)(q:Nat×Oper):Bool:=match q.2.guard with|some (b,c)=>(Nat.beq b g&&(c==a))||(Nat.ble i b&&Nat.blt b q.1)|none=>false
def hasG(b:O (Nat×Bool))(g:Nat)(a:Bool):Bool:=b.any λc=>Nat.beq c.1 g&&(c.2==a)
def okG(a:O (Nat×Bool))(o:Oper):Bool:=match o.guard with|none=>true|some (g,w)=>hasG a g w
def b4l(σ:U.St)(l:O (Nat×Oper)):U.St:=l.foldl (λσ q=>σ.put q.2.dst .unk) σ
structure RegC where
 base:Nat
 ops:O Oper
 bef:O Nat
 draw:Bool
 lim:Nat
 sp:O Nat
def d16(C:RegC)(l:O (Nat×Oper)):O (Nat×Nat×Nat):=l.map λq=>(q.1,b9d C.ops q.2 C.lim,g8r q.2)
def b6z(C:RegC):O (Nat×Nat×Nat)->O (Nat×Nat×Nat)->Bool|[],_=>true|e::b,a=>e0c (C.bef.getD e.1 0) e.2.1 e.2.2 a&&b6z C b (e::a)
def d7z(C:RegC)(a:O (Nat×Bool))(d:A3 Tmp):Bool:=match d with
 |some d=>a.all λc=>match c5h C.ops c.1with|some t=>!(Nat.beq t d)|none=>false
 |none=>true
def h38(m s:Nat):Bool:=Nat.beq (m|||s) s
def f7n(t:Tmp)(l:O (Nat×Oper)):Bool:=l.all λq=>match q.2.dst with|some d=>!(Nat.beq d t)|none=>false
def d8e(q:Nat×Oper):A3 (Tmp×Tmp×Operand×Operand):=match q.2.dst,q.2.op with|some d,.pick (.tmp t) x y=>some (d,t,x,y)|_,_=>none
def f8p:Op->U.Q
 |.pick c a b=>rdO c λx=>match x with|.bool e=>(match e with|true=>rdO a λx=>.done x []|false=>rdO b λy=>.done y [])|_=>.fail
 |_=>.fail
def spG(C:RegC)(o:Oper):Bool:=(match o.guard with|some (g,_)=>C.sp.any (Nat.beq g)|none=>false)||(match o.op with
 |.pick (.tmp t) _ _=>C.sp.any λg=>match c5h C.ops g with|some a=>Nat.beq t a|none=>false
 |_=>false)
def g27:Op->Bool|.pick _ _ _=>true|_=>false
def g02{R:Type}(σ:U.St)(d:A3 Tmp)(k:U.St->A3 R):A3 R:=match d with
 |some t=>match σ.slot t with|.bool e=>if e=true then k (σ.put (some t) (.bool true))else k (σ.put (some t) (.bool false))|.undef=>k σ|_=>none
 |none=>none
def b5i(C:RegC){R:Type}:Nat->O (Nat×Oper)->O (Nat×Bool)->O (Nat×Nat×Nat)->U.St->(O (Nat×Nat×Nat)->U.St->A3 R)->A3 R|0,_,_,_,_,_=>none|_+1,[],_,b,k,K=>K b k|n+1,(i,o)::a,h,b,k,K=>match(spG C o||C.sp.any (Nat.beq i))&&h.isEmpty with
   |true=>(gq C.ops o (match g27 o.op with|true=>f8p o.op|false=>opX P Φ C.sp i (C.base+16*i) o.op)).eval k 0 λm v s=>match !C.draw||e0c (C.bef.getD i 0) m (c2s o s) b with
     |true=>match C.sp.any (Nat.beq i)with|true=>g02 (k.app o.dst v s) o.dst λl=>b5i C n a [] ((i,m,c2s o s)::b) l K|false=>b5i C n a [] ((i,m,c2s o s)::b) (k.app o.dst v s) K
     |false=>none
   |false=>match okG h o with
   |true=>(opX P Φ C.sp i (C.base+16*i) o.op).eval k 0 λm v s=>match h with
     |[]=>match !C.draw||e0c (C.bef.getD i 0) m (c2s o s) b with|true=>b5i C n a [] ((i,m,c2s o s)::b) (k.app o.dst v s) K|false=>none
     |c::h=>match s with
       |[]=>match d7z C (c::h) o.dst&&h38 m (b9d C.ops o C.lim)with|true=>b5i C n a (c::h) b (k.app o.dst v []) K|false=>none
       |_::_=>none
   |false=>match o.guard with|none=>none|some (g,f)=>match c5h C.ops g with|none=>none|some t=>match k.slot t with
         |.bool e=>match((i,o)::a).dropWhile (c2v g f i)with|[]=>none|p::r=>match d8e p with|none=>none|some (d,w,x,y)=>match Nat.beq w t&&okG h p.2&&d7z C h (some d)&&f7n t (((i,o)::a).takeWhile (c2v g f i))&&((((i,o)::a).takeWhile (c2v g f i)).all λq=>d7z C h q.2.dst)with|false=>none|true=>Option.bind (match f with|true=>if e=true then b5i C n (((i,o)::a).takeWhile (c2v g f i)) ((g,true)::h) b k λ_ l=>c0g l x else c0g (b4l k (((i,o)::a).takeWhile (c2v g f i))) y|false=>if e=true then c0g (b4l k (((i,o)::a).takeWhile (c2v g f i))) x else b5i C n (((i,o)::a).takeWhile (c2v g f i)) ((g,false)::h) b k λ_ l=>c0g l y) λc=>match h with
                 |[]=>match !C.draw||b6z C (d16 C (((i,o)::a).takeWhile (c2v g f i)++[p])) b with|true=>b5i C n r [] ((d16 C (((i,o)::a).takeWhile (c2v g f i)++[p])).reverse++b) ((b4l k (((i,o)::a).takeWhile (c2v g f i))).put (some d) (.bool c)) K|false=>none
                 |u::h=>b5i C n r (u::h) b ((b4l k (((i,o)::a).takeWhile (c2v g f i))).put (some d) (.bool c)) K
         |_=>none
def b34(k:Nat):O Oper->O (Nat×Oper)|[]=>[]|o::r=>(k,o)::b34 (k+1) r
def befD(b:O Oper)(a:Bool):O Nat:=match a with|true=>g6n b|false=>[]
def d6q(d:O Nat)(a:O Oper)(b:Bool){R:Type}(σ:U.St)(K:U.St->A3 R):A3 R:=let n:=a.length;b5i P Φ ⟨σ.nx,a,befD a b,b,σ.nx+16*n,d⟩ (n+1) (b34 0 a) [] [] σ λ_ c=>K ⟨c.sl,c.me,σ.nx+16*n⟩
def f3e{U:Uni}:(cs:O U.C)->CapT U cs->O U.AV|[],_=>[]|_::cs,(x,b)=>.rp (inj _ x)::f3e cs b
def h1x{U:Uni}:(cs:O U.C)->O U.AV->A3 (CapT U cs)|[],[]=>some ()|c::cs,.rp a::e=>(match prj c a with|some x=>(match h1x cs e with|some d=>some (x,d)|none=>none)|none=>none)|_,_=>none
inductive EK(C:Type)where|v(t:Nat)(c:C)|ls(t:Nat)(c:C)|ow(t:Nat)(id:Nat)(e:TypeId)(c:C)|bx(t:Nat)(id:Nat)(ty:TypeId)(c:C)|rp(t:Nat)(c:C)|of(t f:Nat)(id:Nat)(e:TypeId)(c:C)|bm(t:Nat)(id:Nat)(ty:TypeId)(c:C)(m:List (Nat×Nat))|it(t:Nat)(id:Nat)|cl(t:Nat)(f:FuncId)(cs:List C)|vw(t:Nat)(id:Nat)(c:C)|mp(t:Nat)(id:Nat)|cr(t:Nat)(f:FuncId)(is:List Nat)
@[reducible] def EK.T(U:Uni):EK U.C->Type|.v _ c=>U.T c|.ls _ c=>O (U.T c)|.ow _ _ _ c=>O (U.T c)|.bx _ _ _ c=>U.T c|.rp _ c=>U.T c|.of _ _ _ _ c=>O (U.T c)|.bm _ _ _ c _=>U.T c|.it _ _=>A4×Int|.cl _ _ a=>CapT U a|.vw _ _ _=>Int×Nat|.mp _ _=>O (Int×Int)|.cr _ _ _=>Unit
@[reducible] def Keep(U:Uni):O (EK U.C)->Type|[]=>Unit|[p]=>p.T U|p::q::b=>p.T U×Keep U (q::b)
def g4k{U:Uni}{p:EK U.C}:(a:O (EK U.C))->p.T U->Keep U a->Keep U (p::a)|[],x,_=>x|_::_,x,b=>(x,b)
def b0o{U:Uni}{p:EK U.C}:(a:O (EK U.C))->Keep U (p::a)->p.T U|[],x=>x|_::_,s=>s.1
def a7c{U:Uni}{p:EK U.C}:(a:O (EK U.C))->Keep U (p::a)->Keep U a|[],_=>()|_::_,s=>s.2
def d9f{U:Uni}{p:EK U.C}(c:O (EK U.C))(x:A3 (p.T U))(y:A3 (Keep U c)):A3 (Keep U (p::c)):=match x with|some a=>(match y with|some b=>some (g4k c a b)|none=>none)|none=>none
def g2u{U:Uni}(c:U.C)(a:U.AV):A3 (O (U.T c)):=match a with|.list _ l=>b8i c l|.nils=>some []|_=>none
def g40{U:Uni}(σ:U.St)(c:U.C)(a:U.AV):A3 (O (U.T c)):=match a with|.ref b=>(match σ.mem b with|.fz _ l=>b8i c l|_=>none)|a=>g2u c a
def alOK{U:Uni}(c:O (Nat×Nat))(σ:U.St)(d:O (Nat×Nat)):Bool:=d.all λa=>match σ.slot a.1with|.ref b=>c.any λq=>Nat.beq q.1 b&&Nat.beq q.2 a.2|_=>false
def h1a{U:Uni}(a:O (Nat×Nat))(fs:O U.AV)(m:O (Nat×Nat)):Bool:=m.all λq=>match c71 fs q.1with|some i=>a.any λr=>Nat.beq r.1 i&&Nat.beq r.2 q.2|none=>false
def g3s{U:Uni}(σ:U.St)(a:U.AV):U.AV:=match a with|.ref b=>(match σ.mem b with|.fz c l=>.list c l|_=>.ref b)|a=>a
def stF{U:Uni}(σ:U.St)(a:U.AV):U.AV:=match a with|.st c b=>.st c (b.map (g3s σ))|a=>a
def g0t{U:Uni}(σ:U.St):O U.AV->O (Nat×U.MC)|[]=>[]|.ref b::r=>(match σ.mem b with|.sl _ c l=>(b,.fz c l)::g0t σ r|_=>g0t σ r)|_::r=>g0t σ r
def e2k{U:Uni}(a:O (Nat×Nat)):O U.AV->O Nat->Bool|[],[]=>true|.ref j::d,i::c=>(a.any λq=>Nat.beq q.1 j&&Nat.beq q.2 i)&&e2k a d c|_,_=>false
def c64{U:Uni}(h:O Nat)(o:O (Nat×Nat)):(j:O (EK U.C))->(a:O (Nat×Nat))->U.St->A3 (Keep U j)
 |[],a,g=>match(h.all λi=>a.any λq=>Nat.beq q.1 i&&Nat.beq q.2 i)&&alOK a g o with|true=>some ()|false=>none
 |.v t c::j,a,g=>d9f j (prj c (g.slot t)) (c64 h o j a g)|.ls t c::j,a,g=>d9f j (g40 g c (g.slot t)) (c64 h o j a g)|.ow t r e c::j,a,g=>match g.slot t with|.nils=>d9f j (some []) (c64 h o j a g)|.ref d=>(match(a.any λq=>Nat.beq q.1 d),g.mem d with|false,.sl B _ l=>(match Nat.beq e B with|true=>d9f j (b8i c l) (c64 h o j ((d,r)::a) g)|false=>none)|_,_=>none)|_=>none
 |.bx t r x c::j,a,g=>match g.slot t with|.ref d=>(match(a.any λq=>Nat.beq q.1 d),g.mem d with|false,.box u b=>(match Nat.beq x u with|true=>d9f j (prj c (stF g b)) (c64 h o j ((d,r)::a) g)|false=>none)|_,_=>none)|_=>none
 |.rp t c::j,a,g=>match g.slot t with|.rp b=>d9f j (prj c b) (c64 h o j a g)|_=>none
 |.of t f r e c::j,a,g=>match g.slot t with|.ref b=>(match g.mem b with|.box _ (.st _ w)=>(match c71 w f with|some d=>(match(a.any λq=>Nat.beq q.1 d),g.mem d with|false,.sl B _ l=>(match Nat.beq e B with|true=>d9f j (b8i c l) (c64 h o j ((d,r)::a) g)|false=>none)|_,_=>none)|none=>none)|_=>none)|_=>none
 |.bm t r x c m::j,a,g=>match g.slot t with|.ref d=>(match(a.any λq=>Nat.beq q.1 d),g.mem d with|false,.box u (.st y w)=>(match Nat.beq x u&&eqC c y&&h1a a w m with|true=>d9f j (U.mkv c (d0v m w)) (c64 h o j ((d,r)::a) g)|false=>none)|_,_=>none)|_=>none
 |.it t r::j,a,g=>match g.slot t with|.ref d=>(match(a.any λq=>Nat.beq q.1 d),g.mem d with|false,.it s p=>d9f j (some (s,p)) (c64 h o j ((d,r)::a) g)|_,_=>none)|_=>none
 |.mp t r::j,a,g=>match g.slot t with|.ref d=>(match(a.any λq=>Nat.beq q.1 d),g.mem d with|false,.mp l=>d9f j (some l) (c64 h o j ((d,r)::a) g)|_,_=>none)|_=>none
 |.cl t f C::j,a,g=>match g.slot t with|.clo A z=>(match Nat.beq f A with|true=>d9f j (h1x C z) (c64 h o j a g)|false=>none)|_=>none
 |.vw t r c::j,a,g=>match g.slot t with|.vw d y D n=>(match(a.any λq=>Nat.beq q.1 d&&Nat.beq q.2 r)&&eqC c y with|true=>d9f j (some (D,n)) (c64 h o j a g)|false=>none)|_=>none
 |.cr t f E::j,a,g=>match g.slot t with|.clo A z=>(match Nat.beq f A&&e2k a z E with|true=>d9f j (some ()) (c64 h o j a g)|false=>none)|_=>none
def b37{C:Type}:O (EK C)->O Nat|.ow _ c _ _::a=>c::b37 a|.bx _ c _ _::a=>c::b37 a|.of _ _ c _ _::a=>c::b37 a|.bm _ c _ _ _::a=>c::b37 a|.it _ c::a=>c::b37 a|.mp _ c::a=>c::b37 a|_::a=>b37 a|[]=>[]
def c6j:O Nat->Bool|[]=>true|i::a=>!(a.any (Nat.beq i))&&c6j a
def e6x{U:Uni}(σ:U.St):O (EK U.C)->O (Nat×U.MC)|[]=>[]|.ls t _::b=>(match σ.slot t with|.ref d=>(match σ.mem d with|.sl _ c l=>(d,.fz c l)::e6x σ b|_=>e6x σ b)|_=>e6x σ b)|.bx t _ _ _::b=>(match σ.slot t with|.ref d=>(match σ.mem d with|.box _ (.st _ e)=>g0t σ e++e6x σ b|_=>e6x σ b)|_=>e6x σ b)|_::b=>e6x σ b
def d6e{U:Uni}(a:O Nat)(c:O (Nat×Nat))(b:O (EK U.C))(σ:U.St):A3 (Keep U b):=match c6j (b37 b)with|true=>c64 a c b [] (σ.app none .unk (e6x σ b))|false=>none
def b64{U:Uni}(i:O (Nat×Nat)):(b:O (EK U.C))->Keep U b->U.St|[],_=>⟨i.map λa=>(a.1,.ref a.2),[],i.foldl (λm a=>max m (a.2+1)) 0⟩|.v t c::b,s=>let d:=b64 i b (a7c b s);⟨(t,inj c (b0o b s))::d.sl,d.me,d.nx⟩|.ls t c::b,s=>let d:=b64 i b (a7c b s);⟨(t,.list c (b0o b s))::d.sl,d.me,d.nx⟩|.ow t g e c::b,s=>let d:=b64 i b (a7c b s);⟨(t,.ref g)::d.sl,(g,.sl e c (b0o b s))::d.me,max (g+1) d.nx⟩|.bx t g j c::b,s=>let d:=b64 i b (a7c b s);⟨(t,.ref g)::d.sl,(g,.box j (inj c (b0o b s)))::d.me,max (g+1) d.nx⟩|.rp t c::b,s=>let d:=b64 i b (a7c b s);⟨(t,.rp (inj c (b0o b s)))::d.sl,d.me,d.nx⟩|.of t f g e c::b,s=>let d:=b64 i b (a7c b s);⟨d.sl,(g,.sl e c (b0o b s))::d.me,max (g+1) d.nx⟩|.bm t g j c m::b,s=>let d:=b64 i b (a7c b s);⟨(t,.ref g)::d.sl,(g,.box j (.st c (b8h m (U.flds c (b0o b s)))))::d.me,max (g+1) d.nx⟩|.it t g::b,s=>let d:=b64 i b (a7c b s);⟨(t,.ref g)::d.sl,(g,.it (b0o b s).1 (b0o b s).2)::d.me,max (g+1) d.nx⟩|.mp t g::b,s=>let d:=b64 i b (a7c b s);⟨(t,.ref g)::d.sl,(g,.mp (b0o b s))::d.me,max (g+1) d.nx⟩|.cl t f l::b,s=>let d:=b64 i b (a7c b s);⟨(t,.clo f (f3e l (b0o b s)))::d.sl,d.me,d.nx⟩|.vw t g c::b,s=>let d:=b64 i b (a7c b s);⟨(t,.vw g c (b0o b s).1 (b0o b s).2)::d.sl,d.me,d.nx⟩|.cr t f k::b,s=>let d:=b64 i b (a7c b s);⟨(t,.clo f (k.map .ref))::d.sl,d.me,d.nx⟩
def isRp{U:Uni}:U.AV->Bool|.rp _=>true|_=>false
def e09{U:Uni}:U.AV->Bool|.bool _|.int _ _|.str _|.val _ _|.list _ _|.nils|.nilp|.undef|.rp _=>true|.clo _ a=>a.all isRp|.bnd _ (.val _ _)=>true|_=>false
def f3c{U:Uni}(σ:U.St):O Nat->O (Nat×U.AV)|[]=>[]|t::r=>match e09 (σ.slot t)with|true=>(t,σ.slot t)::f3c σ r|false=>f3c σ r
def e5d{U:Uni}(σ:U.St)(b:O Nat)(d:O (Nat×Nat))(c:O (EK U.C))(s:Keep U c):U.St:=let a:=b64 d c s;⟨f3c σ b++a.sl,a.me,a.nx⟩
inductive Ann(C:Type)where|n|s(a b:Ann C)|j(al:List (Nat×Nat))(es:List (EK C))(a b:Ann C)|l(inv:List Nat)(al:List (Nat×Nat))(es:List (EK C))(a:Ann C)|g(sp:List Nat)|z(fz sp:List Nat)
structure Kont(U:Uni)(R:Type)where
 norm:U.St->A3 R
 exit:Nat->U.St->A3 R
 ret:U.St->A3 R
def Ann.sp{C:Type}:Ann C->O Nat|.g a=>a|.z _ a=>a|_=>[]
def Ann.fz{C:Type}:Ann C->O Nat|.z a _=>a|_=>[]
def g6s{U:Uni}(σ:U.St):O Nat->O (Nat×U.MC)|[]=>[]|t::b=>(match σ.slot t with|.ref d=>(match σ.mem d with|.sl _ c l=>(d,.fz c l)::g6s σ b|_=>g6s σ b)|_=>g6s σ b)
def m0u {U:Uni} (σ:U.St) (ts:List Nat):U.St:=match ts with | []=>σ | t::ts=>σ.app none .unk (g6s σ (t::ts))
def frzA{U:Uni}(σ:U.St)(ts:O Nat):U.St:=match ts with|[]=>σ|t::ts=>σ.app none .unk (g6s σ (t::ts))
def Ann.fst{C:Type}:Ann C->Ann C|.s a _=>a|.j _ _ a _=>a|a=>a
def Ann.snd{C:Type}:Ann C->Ann C|.s _ b=>b|.j _ _ _ b=>b|_=>.n
abbrev bindO{α β:Type}(o:A3 α)(f:α->A3 β):A3 β:=match o with|some a=>f a|none=>none
def joinC{b c:Type}(f:b->A3 c)(a:b):A3 c:=f a
def b5k:Code->O Nat|.region _ d _=>d.toList.filterMap (·.dst)|.seq a b=>b5k a++b5k b|.cond _ a b=>b5k a++b5k b|.block _ a=>b5k a|.loop a=>b5k a|_=>[]
def f1m(a b:O Nat):Bool:=a.all λx=>!(b.any (Nat.beq x))
def den{R:Type}(d:O Nat):Code->Ann U.C->U.St->Kont U R->A3 R
 |.skip,_,f,k=>k.norm f|.region _ q o,h,f,k=>d6q P Φ h.sp q.toList o (frzA f h.fz) k.norm|.seq a b,h,f,k=>match h with|.j n m v w=>den d a v f ⟨λf=>bindO (d6e d n m f) λs=>joinC (λs=>den d b w (b64 n m s) k) s,k.exit,k.ret⟩|h=>den d a h.fst f ⟨λf=>den d b h.snd f k,k.exit,k.ret⟩
 |.cond c a b,h,f,k=>match c0g f c with|some e=>if e=true then den d a h.fst f k else den d b h.snd f k|none=>none
 |.block t a,h,f,k=>den d a h f ⟨k.norm,λi f=>match Nat.beq i t with|true=>k.norm f|false=>k.exit i f,k.ret⟩|.loop a,.l p n m h,f,k=>match f1m p (b5k a)with|true=>bindO (d6e d n m f) λs=>d9 FU (λu s=>den d a h (e5d f p n m s) ⟨λr=>bindO (d6e d n m r) u,k.exit,k.ret⟩) s|false=>none
 |.exit t,_,f,k=>k.exit t f|.ret,_,f,k=>k.ret f|_,_,_,_=>none
def a02{U:Uni}:(i:Nat)->(ps:O (PK U.C))->Args U ps->U.St|i,[],_=>⟨[],[],i⟩|i,.v c::ps,(x,d)=>let a:=a02 (i+1) ps d;⟨(i,inj c x)::a.sl,a.me,a.nx⟩|i,.ls c::ps,(x,d)=>let a:=a02 (i+1) ps d;⟨(i,.list c x)::a.sl,a.me,a.nx⟩|i,.ow e c::ps,(x,d)=>let a:=a02 (i+1) ps d;⟨(i,.ref i)::a.sl,(i,.sl e c x)::a.me,a.nx⟩|i,.rp _ c::ps,(x,d)=>let a:=a02 (i+1) ps d;⟨(i,.rp (inj c x))::a.sl,a.me,a.nx⟩|i,.io t c::ps,(x,d)=>let a:=a02 (i+1) ps d;⟨(i,.ref i)::a.sl,(i,.box t (inj c x))::a.me,a.nx⟩|i,.im t c m::ps,(x,d)=>let a:=a02 (i+1) ps d;⟨(i,.ref i)::a.sl,(i,.box t (.st c (b8h m (U.flds c x))))::a.me,a.nx⟩|i,.po _ _ e c::ps,(x,d)=>let a:=a02 (i+1) ps d;⟨a.sl,(i,.sl e c x)::a.me,a.nx⟩|i,.so e c::ps,(x,d)=>let a:=a02 (i+1) ps d;⟨(i,.ref i)::a.sl,(i,.sl e c x)::a.me,a.nx⟩|i,.cl f h::ps,(x,d)=>let a:=a02 (i+1) ps d;⟨(i,.clo f (f3e h x))::a.sl,a.me,a.nx⟩|i,.bn f c::ps,(x,d)=>let a:=a02 (i+1) ps d;⟨(i,.bnd f (inj c x))::a.sl,a.me,a.nx⟩|i,.km g t::ps,(x,d)=>let a:=a02 (i+1) ps d;⟨(i,.km g t x)::a.sl,a.me,a.nx⟩|i,.vl g t c::ps,(x,d)=>let a:=a02 (i+1) ps d;⟨(i,.vl g t c x)::a.sl,a.me,a.nx⟩
def d0u{c d:Type}(x:A3 c)(y:A3 d):A3 (c×d):=match x with|some a=>(match y with|some b=>some (a,b)|none=>none)|none=>none
def f3d{U:Uni}(σ:U.St):ResultVar->A3 U.AV|.tmp t=>some (σ.slot t)|.cell t c=>match σ.slot t with|.ref a=>(match σ.mem a with|.box _ b=>(match b33 P c (stF σ b)with|true=>some (stF σ b)|false=>none)|_=>none)|_=>none
def g5q{U:Uni}(σ:U.St):O ResultVar->O (Nat×U.MC)|[]=>[]|.cell t _::r=>(match σ.slot t with|.ref b=>(match σ.mem b with|.box _ (.st _ c)=>g0t σ c++g5q σ r|_=>g5q σ r)|_=>g5q σ r)|_::r=>g5q σ r
def resL{U:Uni}(σ:U.St)(us:O Nat)(c:U.C)(a:U.AV):A3 (O (U.T c)×O Nat):=match a with|.list _ l=>(match b8i c l with|some l=>some (l,us)|none=>none)|.nils=>some ([],us)|.ref b=>(match us.any (Nat.beq b),σ.mem b with|false,.sl _ _ l=>(match b8i c l with|some l=>some (l,b::us)|none=>none)|_,.fz _ l=>(match b8i c l with|some l=>some (l,us)|none=>none)|_,_=>none)|_=>none
def resO{U:Uni}(σ:U.St)(us:O Nat)(e:TypeId)(c:U.C)(a:U.AV):A3 (O (U.T c)×O Nat):=match a with|.nils=>some ([],us)|.ref b=>(match us.any (Nat.beq b),σ.mem b with|false,.sl d _ l=>(match Nat.beq e d,b8i c l with|true,some l=>some (l,b::us)|_,_=>none)|_,_=>none)|_=>none
def resP{U:Uni}(σ:U.St)(us:O Nat)(t:TypeId)(c:U.C)(a:U.AV):A3 (A3 (U.T c)×O Nat):=match a with|.nilp=>some (none,us)|.ref d=>(match us.any (Nat.beq d),σ.mem d with|false,.box e b=>(match Nat.beq t e,prj c b with|true,some x=>some (some x,d::us)|_,_=>none)|_,_=>none)|_=>none
def e51{U:Uni}(σ:U.St):(h:O Nat)->(d:O (RK U.C))->O ResultVar->A3 (Ress U d)
 |_,[],[]=>some ()|g,.v c::d,r::l=>match f3d P σ r with|some a=>d0u (prj c a) (e51 σ g d l)|none=>none
 |g,.ls c::d,r::l=>match f3d P σ r with|some a=>(match resL σ g c a with|some (x,b)=>d0u (some x) (e51 σ b d l)|none=>none)|none=>none
 |g,.ow e c::d,r::l=>match f3d P σ r with|some a=>(match resO σ g e c a with|some (x,b)=>d0u (some x) (e51 σ b d l)|none=>none)|none=>none
 |g,.bo t c::d,r::l=>match f3d P σ r with|some a=>(match resP σ g t c a with|some (x,b)=>d0u (some x) (e51 σ b d l)|none=>none)|none=>none
 |_,_,_=>none
def e6y{U:Uni}(σ:U.St)(b f:Nat):A3 Nat:=match σ.mem b with|.box _ (.st _ a)=>c71 a f|_=>none
def ioP{U:Uni}(σ:U.St):Nat->O (PK U.C)->O Nat|_,[]=>[]|i,.io _ _::c=>i::ioP σ (i+1) c|i,.im _ _ _::c=>i::ioP σ (i+1) c|i,.so _ _::c=>i::ioP σ (i+1) c|i,.po b f _ _::c=>(match e6y σ b f with|some j=>j|none=>0)::ioP σ (i+1) c|i,_::c=>ioP σ (i+1) c
def c7d{U:Uni}(σ:U.St):(i:Nat)->(ps:O (PK U.C))->A3 (Outs U ps)
 |_,[]=>some ()|i,.io t c::ps=>match σ.mem i with|.box g b=>(match Nat.beq t g with|true=>d0u (prj c b) (c7d σ (i+1) ps)|false=>none)|_=>none
 |i,.im t c m::ps=>match σ.mem i with|.box g (.st k h)=>(match Nat.beq t g&&eqC c k with|true=>d0u (U.mkv c (d0v m h)) (c7d σ (i+1) ps)|false=>none)|_=>none
 |i,.po b f e c::ps=>match e6y σ b f with|some j=>(match σ.mem j with|.sl d _ l=>(match Nat.beq e d with|true=>d0u (b8i c l) (c7d σ (i+1) ps)|false=>none)|_=>none)|none=>none
 |i,.so e c::ps=>match σ.mem i with|.sl d _ l=>(match Nat.beq e d with|true=>d0u (b8i c l) (c7d σ (i+1) ps)|false=>none)|_=>none
 |i,.cl _ _::ps=>c7d σ (i+1) ps|i,.bn _ _::ps=>c7d σ (i+1) ps|i,.km _ _::ps=>c7d σ (i+1) ps|i,.vl _ _ _::ps=>c7d σ (i+1) ps|i,.v _::ps=>c7d σ (i+1) ps|i,.ls _::ps=>c7d σ (i+1) ps|i,.ow _ _::ps=>c7d σ (i+1) ps|i,.rp _ _::ps=>c7d σ (i+1) ps
def h2z{U:Uni}(s:Sig U)(a:O ResultVar)(σ:U.St):A3 (Ress U s.rs×Outs U s.ps):=match c6j (ioP σ 0 s.ps)with
 |true=>match e51 P σ (ioP σ 0 s.ps) s.rs a with
   |some r=>match c7d σ 0 s.ps with|some o=>some (r,o)|none=>none
   |none=>none
 |false=>none
def e61{U:Uni}(s:Sig U)(a:O ResultVar)(σ:U.St):A3 (Ress U s.rs×Outs U s.ps):=h2z P s a (σ.app none .unk (g5q σ a))
def ioI{C:Type}:Nat->O (PK C)->O Nat|_,[]=>[]|i,.io _ _::b=>i::ioI (i+1) b|i,.im _ _ _::b=>i::ioI (i+1) b|i,.so _ _::b=>i::ioI (i+1) b|i,_::b=>ioI (i+1) b
def unK{s:Sig U}{B:Type}(a:Ress U s.rs×Outs U s.ps->B)(x:A3 (Ress U s.rs×Outs U s.ps)):A3 B:=match x with|some p=>some (a p)|none=>none
def c5v(s:Sig U){B:Type}(b:Ress U s.rs×Outs U s.ps->B)(fn:Func)(d:Ann U.C)(x:Args U s.ps):A3 B:=match fn.body with|some c=>den P Φ (ioI 0 s.ps) c d (a02 0 s.ps x) ⟨λa=>unK b (e61 P s fn.results.toList a),λ_ _=>none,λa=>unK b (e61 P s fn.results.toList a)⟩|none=>none
end
def y7{d c:Type}(p:d->c->Prop):O d->O c->Prop|[],[]=>True|a::f,b::e=>p a b/\y7 p f e|_,_=>False
def y7.mono{d f:Type}{p q:d->f->Prop}(h:∀a b,p a b->q a b):∀{l:O d}{r:O f},y7 p l r->y7 q l r|[],[],_=>trivial|_::_,_::_,c=>⟨h _ _ c.1,y7.mono h c.2⟩|[],_::_,c=>c.elim|_::_,[],c=>c.elim
def y7.length{b c:Type}{p:b->c->Prop}:∀{l:O b}{r:O c},y7 p l r->l.length=r.length|[],[],_=>rfl|_::_,_::_,a=>by simp[y7.length a.2]|[],_::_,a=>a.elim|_::_,[],a=>a.elim
def y7.get{e f:Type}{p:e->f->Prop}:∀{l:O e}{r:O f},y7 p l r->∀{i:Nat}{a:e},l[i]?=some a->∃b,r[i]?=some b/\p a b|[],[],_,i,a,d=>by simp_all|x::_,y::_,c,0,a,d=>by simp at d;subst d;exact⟨y,rfl,c.1⟩|_::_,_::_,c,i+1,a,d=>by simpa using y7.get c.2 (by simp_all)|[],_::_,c,_,_,_=>c.elim|_::_,[],c,_,_,_=>c.elim
def y7.getR{f e:Type}{p:f->e->Prop}:∀{l:O f}{r:O e},y7 p l r->∀{i:Nat}{b:e},r[i]?=some b->∃a,l[i]?=some a/\p a b|[],[],_,i,a,d=>by simp_all|x::_,y::_,c,0,a,d=>by simp at d;subst d;exact⟨x,rfl,c.1⟩|_::_,_::_,c,i+1,a,d=>by simpa using y7.getR c.2 (by simp_all)|[],_::_,c,_,_,_=>c.elim|_::_,[],c,_,_,_=>c.elim
def y7.of_get{d c:Type}{p:d->c->Prop}:∀{l:O d}{r:O c},l.length=r.length->(∀(i:Nat)(a:d)(b:c),l[i]?=some a->r[i]?=some b->p a b)->y7 p l r|[],[],_,_=>trivial|x::l,y::r,e,h=>⟨h 0 x y rfl rfl,y7.of_get (by simp_all) λi a b g j=>h (i+1) a b (by grind) (by simp_all)⟩|[],_::_,e,_=>by simp_all|_::_,[],e,_=>by simp_all
def intV {U:Uni}:U.AV -> Option Value
 | .int k n=>some (.int k n)
 | _=>none
def AEq{U:Uni}(a b:U.AV):Prop:=a=b\/(a=.nils/\∃c,b=.list c [])
structure UOK (U:Uni):Prop where
 lay: ∀c x,(U.flds c x).map a07=U.lay c
 kind: ∀c x,(U.flds c x).all c06=true
 sum: ∀c,U.n c=((U.lay c).map osz).sum
 sc: ∀c,U.ag c=false -> U.lay c=[none]
 mkl: ∀c as y,U.mkv c as=some y -> y7 AEq as (U.flds c y)
 flat: ∀c x,U.flat c=true -> (U.flds c x).all h08=true
 arr: ∀c x,U.isA c=true -> U.flds c x=(U.al c x).map (inj (U.ae c)) /\ (U.al c x).length=U.an c
 ars: ∀c x i y,U.isA c=true -> U.al c (U.ast c x i y)=a8h (U.al c x) i y
 gt: ∀c x i y,U.isA c=true -> c7 (U.al c x) i=some y -> U.gt c x i=y
 by8: ∀c x,U.b8 c=true -> U.flds c x=[.int .u8 (U.t8 c x)]
 tabK: ∀w w',U.tab w -> (∀b,U.tb b -> w'.heap[b]? =w.heap[b]?) -> U.tab w'
 gvK: ∀w g y,U.tab w -> U.gv g=some y -> ∃cs,CA w ⟨g,0,none⟩ cs /\ (U.flds y.1 y.2).map intV=cs.map some
section
variable {U:Uni}
def a0z(R:∀c,TyR (U.T c))(G:Nat->Prop)(w:World):U.AV->O A5->Prop|.bool b,a=>a=[.bool b]|.int k n,a=>a=[.int k n]|.str s,a=>a=[.string s]|.val c x,a=>(R c).rep G w a x|.list c l,a=>∃v,a=[v]/\k9 (R c) G w v l|.nils,a=>a=[.slice none 0 0]|_,_=>False
def a0z.ext{R:∀c,TyR (U.T c)}{G:Nat->Prop}{w w':World}{a:U.AV}{cs:O A5}(h:a0z R G w a cs)(b:Ext G w w'):a0z R G w' a cs:=by cases a<;>simp [a0z]at*<;>first|omega|exact(R _).ext h b|(let ⟨v,e,d⟩:=h;exact⟨v,e,d.ext b⟩)
def a0z.weaken{R:∀c,TyR (U.T c)}{G e:Nat->Prop}{w:World}{a:U.AV}{cs:O A5}(h:a0z R G w a cs)(f:∀b,b<w.heap.size->e b->G b):a0z R e w a cs:=by cases a<;>simp [a0z]at*<;>first|omega|exact(R _).weaken h f|(let ⟨v,i,g⟩:=h;exact⟨v,i,g.weaken f⟩)
def e8(R:∀c,TyR (U.T c))(G:Nat->Prop)(w:World):U.AV->O A5->Prop|.bool b,d=>d=[.bool b]|.int k n,d=>d=[.int k n]|.str s,d=>d=[.string s]|.val c x,d=>(R c).rep G w d x|.list c l,d=>∃v,d=[v]/\k9 (R c) G w v l|.nils,d=>d=[.slice none 0 0]|.rp a,d=>∃f e,d=[.pointer (some f)]/\f.block<w.heap.size/\¬G f.block/\CA w f e/\a0z R G w a e|.nilp,d=>d=[.pointer none]|_,_=>False
def e8.of0{R:∀c,TyR (U.T c)}{G:Nat->Prop}{w:World}{a:U.AV}{cs:O A5}(h:a0z R G w a cs):e8 R G w a cs:=by cases a<;>first|exact h|exact h.elim
def e8.to0{R:∀c,TyR (U.T c)}{G:Nat->Prop}{w:World}{a:U.AV}{cs:O A5}(b:d3q a=true)(h:e8 R G w a cs):a0z R G w a cs:=by cases a<;>first|exact h|(cases b)
def e8.ext{R:∀c,TyR (U.T c)}{G:Nat->Prop}{w w':World}{a:U.AV}{cs:O A5}(h:e8 R G w a cs)(b:Ext G w w'):e8 R G w' a cs:=by cases a<;>simp only[e8]at*<;>first|omega|exact(R _).ext h b|(let ⟨v,k,d⟩:=h;exact⟨v,k,d.ext b⟩)|(let ⟨l,e,j,i,g,f,d⟩:=h;exact⟨l,e,j,Nat.lt_of_lt_of_le i b.size,g,f.of_block (b.block _ i g),d.ext b⟩)
def e8.weaken{R:∀c,TyR (U.T c)}{G j:Nat->Prop}{w:World}{a:U.AV}{cs:O A5}(h:e8 R G w a cs)(e:∀b,b<w.heap.size->j b->G b):e8 R j w a cs:=by cases a<;>simp only[e8]at*<;>first|omega|exact(R _).weaken h e|(let ⟨v,k,f⟩:=h;exact⟨v,k,f.weaken e⟩)|(let ⟨m,g,l,n,p,i,f⟩:=h;exact⟨m,g,l,n,λo=>by simp_all,i,f.weaken e⟩)
def RdS(R:∀c,TyR (U.T c))(c:U.C):TyR (U.T c):=⟨U.n c,λG w f x=>f.length=U.n c/\∃a:O (O A5),f=a.flatten/\y7 (e8 R G w) (U.flds c x) a,λh=>h.1,λ⟨e,a,d,h⟩i=>⟨e,a,d,h.mono λ_ _ b=>b.ext i⟩,λ⟨e,a,d,h⟩g=>⟨e,a,d,h.mono λ_ _ b=>b.weaken g⟩⟩
def Rd:Nat->∀c,TyR (U.T c)|0=>λc=>⟨U.n c,λ_ _ _ _=>False,λh=>h.elim,λh _=>h,λh _=>h⟩|d+1=>RdS (Rd d)
def Rp(c:U.C):TyR (U.T c):=⟨U.n c,λG w b x=>∃d,(Rd d c).rep G w b x,λ⟨d,h⟩=>by cases d with|zero=>exact False.elim h|succ d=>exact h.1,λ⟨d,h⟩a=>⟨d,(Rd d c).ext h a⟩,λ⟨d,h⟩e=>⟨d,(Rd d c).weaken h e⟩⟩
def g6m(d:Nat)(c:U.C):(Rd d c).n=U.n c:=by cases d<;>rfl
def Rp_n(c:U.C):(Rp c).n=U.n c:=rfl
def k9.monoR{c:Type}{R R':TyR c}{G:Nat->Prop}{w:World}{v:A5}{l:O c}(hn:R.n=R'.n)(e:∀cs x,R.rep G w cs x->R'.rep G w cs x)(h:k9 R G w v l):k9 R' G w v l:=by
 rcases h with h|⟨a,b,g,f,m,j⟩;.exact .inl h
 .refine .inr ⟨a,b,g,f,m,λi x d=>?_⟩;let ⟨cs,k,n⟩:=j i x d;exact⟨cs,e _ _ k,by grind⟩
def a0z.monoR{R R':∀c,TyR (U.T c)}{G:Nat->Prop}{w:World}(hn:∀c,(R c).n=(R' c).n)(d:∀c cs x,(R c).rep G w cs x->(R' c).rep G w cs x){a:U.AV}{cs:O A5}(h:a0z R G w a cs):a0z R' G w a cs:=by cases a<;>simp [a0z]at*<;>first|omega|simp_all|(let ⟨v,b,h⟩:=h;exact⟨v,b,k9.monoR (hn _) (d _) h⟩)
def e8.monoR{R R':∀c,TyR (U.T c)}{G:Nat->Prop}{w:World}(hn:∀c,(R c).n=(R' c).n)(b:∀c cs x,(R c).rep G w cs x->(R' c).rep G w cs x){a:U.AV}{cs:O A5}(h:e8 R G w a cs):e8 R' G w a cs:=by cases a<;>simp [e8]at*<;>first|omega|exact b _ _ _ h|(let ⟨v,i,h⟩:=h;exact⟨v,i,k9.monoR (hn _) (b _) h⟩)|(let ⟨l,d,k,f,g,e,j⟩:=h;exact⟨l,d,k,f,g,e,j.monoR hn b⟩)
def f04{G:Nat->Prop}{w:World}:∀(d:Nat)(c:U.C)(cs:O A5)(x:U.T c),(Rd d c).rep G w cs x->(Rd (d+1) c).rep G w cs x|0,_,_,_,h=>False.elim h|d+1,c,cs,x,⟨g,a,e,h⟩=>⟨g,a,e,h.mono λ_ _ f=>e8.monoR (by simp_all[g6m]) (λc cs x=>f04 d c cs x) f⟩
def g5r{G:Nat->Prop}{w:World}{d a:Nat}(b:d<=a){c:U.C}{cs:O A5}{x:U.T c}(h:(Rd d c).rep G w cs x):(Rd a c).rep G w cs x:=by induction b<;>simp_all[f04]
def k9.bound{G:Nat->Prop}{w:World}{c:U.C}{v:A5}{l:O (U.T c)}(h:k9 (Rp c) G w v l):∃d,k9 (Rd d c) G w v l:=by
 rcases h with h|⟨a,m,p,t,A,z⟩;.exact⟨0,.inl h⟩
 .have k:∀n,∃d,∀i x,i<n->l[i]?=some x->∃f,(Rd d c).rep G w f x/\a.block<w.heap.size/\¬G a.block/\CA w (a.add (i*(Rp c).n)) f:=by intro n;induction n with|zero=>simp_all|succ n s=>let ⟨d,j⟩:=s;cases g:l[n]?with
     |none=>exact⟨d,λi x e b=>by
       rcases Nat.lt_succ_iff_lt_or_eq.1 e with h|h;.exact j i x h b
       grind⟩|some y=>let ⟨f,⟨r,q⟩,o⟩:=z n y g;exact⟨max d r,λi x e b=>by
        rcases Nat.lt_succ_iff_lt_or_eq.1 e with h|h;.let ⟨f,u,o⟩:=j i x h b;exact⟨f,g5r (by omega) u,o⟩
        .subst h;rw[g]at b;cases b;exact⟨f,g5r (by omega) q,o⟩⟩
  obtain⟨d,j⟩:=k _;exact⟨d,.inr ⟨a,m,p,t,A,λi x g=>by rw[g6m];exact j i x (qD.1 g).1 g⟩⟩
def a0z.bound{G:Nat->Prop}{w:World}{a:U.AV}{cs:O A5}(h:a0z Rp G w a cs):∃d,a0z (Rd d) G w a cs:=by cases a<;>simp [a0z]at*<;>first|simp_all|exact h|(let ⟨v,b,h⟩:=h;let ⟨d,h⟩:=k9.bound h;grind)
def e8.bound{G:Nat->Prop}{w:World}{a:U.AV}{cs:O A5}(h:e8 Rp G w a cs):∃d,e8 (Rd d) G w a cs:=by cases a<;>simp [e8]at*<;>first|exact⟨0,h⟩|exact h|(let ⟨v,g,h⟩:=h;let ⟨d,h⟩:=k9.bound h;grind)|(let ⟨k,c,i,f,j,e,b⟩:=h;let ⟨d,b⟩:=b.bound;grind)
def e8.up{G:Nat->Prop}{w:World}{d b:Nat}(e:d<=b){a:U.AV}{cs:O A5}(h:e8 (Rd d) G w a cs):e8 (Rd b) G w a cs:=e8.monoR (by simp_all[g6m]) (λc cs x h=>g5r e h) h
def y7.bound{G:Nat->Prop}{w:World}:∀{as:O U.AV}{css:O (O A5)},y7 (e8 Rp G w) as css->∃d,y7 (e8 (Rd d) G w) as css|[],[],_=>⟨0,trivial⟩|a::as,c::j,h=>by let ⟨d,g⟩:=e8.bound h.1;let ⟨f,i⟩:=y7.bound h.2;exact⟨max d f,g.up (by omega),i.mono λ_ _ b=>b.up (by omega)⟩|[],_::_,b=>b.elim|_::_,[],b=>b.elim
def a91{G:Nat->Prop}{w:World}{c:U.C}{cs:O A5}{x:U.T c}:(Rp c).rep G w cs x↔cs.length=U.n c/\∃css,cs=css.flatten/\y7 (e8 Rp G w) (U.flds c x) css:=by
 constructor;.rintro⟨d,h⟩;cases d with|zero=>exact False.elim h|succ d=>let ⟨a,css,b,h⟩:=h;exact⟨a,css,b,h.mono λ_ _ e=>e8.monoR (R':=Rp) (λc=>g6m d c) (λc cs x h=>show∃d,_ from⟨d,h⟩) e⟩
 .rintro⟨a,css,b,h⟩;let ⟨d,h⟩:=y7.bound h;exact⟨d+1,a,css,b,h⟩
def c5g:A5->A3 Addr|.pointer (some a)=>some a|.slice (some a) _ _=>some a|_=>none
def b3g:U.C->O PE->Nat|_,[]=>0|c,.f n::p=>off c n+(match(U.lay c)[n]?with|some (some b)=>b3g b p|_=>0)|c,.i n::p=>n.toNat*U.n (U.ae c)+b3g (U.ae c) p
def d2l(c:U.C):O PE->Nat|.i n::p=>n.toNat*U.n c+b3g c p|p=>b3g c p
def okV:U.C->O PE->Prop
 |_,[]=>True|c,.f n::p=>match(U.lay c)[n]?with|some (some b)=>okV b p|_=>True
 |c,.i n::p=>0<=n/\n<(U.an c:Int)/\okV (U.ae c) p
def okP(c:U.C):O PE->Prop|.i _::p=>okV c p|p=>okV c p
structure Cx where
 Z:Nat->Prop
 π:Nat->A5
 us:Nat->Prop
 w:World
def Cx.G(X:Cx):Nat->Prop:=λb=>¬X.Z b
def b92(l:O (Int×Int)):Obj:=.map (l.zipIdx.map λq=>({key:=.int .i64 q.1.1,val:=.int .i64 q.1.2,born:=q.2}:MapEntry)).toArray l.length
def l9j (X:Cx):U.AV -> Value -> Prop
 | .ref id,v=>X.us id /\ v=X.π id /\ v.oneCell'=true
 | _,_=>False
def b79 (X:Cx):U.AV -> Value -> Prop
 | .unk,_=>True
 | .undef,v=>v=undef
 | .nils,v=>v= .slice none 0 0
 | .nilp,v=>v= .pointer none
 | .bool b,v=>v= .bool b
 | .int k n,v=>v= .int k n
 | .str s,v=>v= .string s
 | .val c x,v=> ∃cs:List Value,v= .agg cs.toArray /\ (Rp c).rep X.G X.w cs x
 | .list c l,v=>k9 (Rp c) X.G X.w v l
 | .rp a,v=> ∃ad cs,v= .pointer (some ad) /\ ad.block<X.w.heap.size /\ ¬X.G ad.block /\ CA X.w ad cs /\ e8 Rp X.G X.w a cs
 | .ref id,v=>X.us id /\ v=X.π id /\ v.oneCell'=true
 | .fref id c p,v=>X.us id /\ ∃a,c5g (X.π id)=some a /\ okP c p /\ v= .pointer (some (a.add (d2l c p)))
 | .clo f as,v=> ∃vs:List Value,v= .func (.func f) #[] vs.toArray /\ y7 (l9j X) as vs
 | .tup _,_=>False
 | .st _ _,_=>False
 | .vw id c lo n,v=>X.us id /\ d0z v (X.π id) (U.n c) lo n
 | .bnd _ _,_=>False
 | .ifc _ _,_=>False
 | .km _ _ _,_=>False
 | .vl _ _ _ _,_=>False
 | .mi,v=> ∃b mb s c,v= .pointer (some ⟨b,0,none⟩) /\ (b<X.w.heap.size /\ ¬X.G b) /\ (mb<X.w.heap.size /\ ¬X.G mb) /\ X.w.heap[b]? =some (.mapIter (some mb) s #[] c) /\ X.w.heap[mb]? =some (b92 [])
 | .va id c p n,v=>X.us id /\ ∃a,c5g (X.π id)=some a /\ okP c p /\ v= .slice (some (a.add (d2l c p))) n n
def a1p(X:Cx):U.AV->A5->Prop|.st c d,v=>∃b:O (O A5),v=.agg b.flatten.toArray/\d.map a07=U.lay c/\d.all a03=true/\y7 (λa e=>∃u:A5,u.cells.toList=e/\b79 X a u) d b|a,v=>b79 X a v
def AVR(X:Cx):U.AV->A5->Prop|.clo f h,v=>∃d:O A5,v=.func (.func f) #[] d.toArray/\y7 (a1p X) h d|.tup h,v=>∃d:O A5,v=.tuple d.toArray/\y7 (a1p X) h d|.bnd f a,v=>∃u:A5,v=.func (.func f) #[u] #[]/\a1p X a u|.ifc t a,v=>∃u:A5,v=.iface t u/\a1p X a u|.km g t l,v=>∃b e,v=.func (.func g) #[] #[.pointer (some ⟨b,0,none⟩)]/\(b<X.w.heap.size/\¬X.G b)/\(e<X.w.heap.size/\¬X.G e)/\Mb X.w b t [.map (some e)]/\(l.map (·.1)).Nodup/\X.w.heap[e]?=some (b92 l)|.vl g t c l,v=>∃b i,v=.func (.func g) #[] #[.pointer (some ⟨b,0,none⟩)]/\(b<X.w.heap.size/\¬X.G b)/\Mb X.w b t [i]/\k9 (Rp c) X.G X.w i l|a,v=>a1p X a v
abbrev Raw(n:Nat):={l:O A5//l.length=n/\∀u∈l,u.oneCell'=true}
def MR(X:Cx):U.MC->A5->Prop|.never,_|.dead,_=>True|.box t a,v=>∃b u,v=.pointer (some ⟨b,0,none⟩)/\Mb X.w b t u.cells.toList/\a1p X a u|.sl e c l,v=>∃d:O (Raw (U.n c)),Own 0 e (U.n c) Subtype.val X.w v d/\y7 (λ(r:Raw (U.n c))x=>(Rp c).rep X.G X.w r.1 x) d l|.fz c l,v=>k9 (Rp c) X.G X.w v l|.it s p,v=>∃b,v=.pointer (some ⟨b,0,none⟩)/\0<=p/\X.w.heap[b]?=some (.stringIter s p.toNat)|.mp l,v=>∃b,v=.map (some b)/\(l.map (·.1)).Nodup/\X.w.heap[b]?=some (b92 l)
def MB:U.MC->A5->Nat->Prop|.box _ _,v,b|.sl _ _ _,v,b|.it _ _,v,b|.mp _,v,b=>hdV v=some b|_,_,_=>False
structure Cx.Le(X X':Cx):Prop where
 z:∀b,X.Z b->X'.Z b
 e:Ext X.G X.w X'.w
 u:∀id,X.us id->X'.us id/\X'.π id=X.π id
def e8.le{X X':Cx}(h:X.Le X'){a:U.AV}{cs:O A5}(c:e8 Rp X.G X.w a cs):e8 Rp X'.G X'.w a cs:=(c.ext h.e).weaken λb _ d e=>d (h.z b e)
def k9.le{X X':Cx}(h:X.Le X'){c:U.C}{v:A5}{l:O (U.T c)}(a:k9 (Rp c) X.G X.w v l):k9 (Rp c) X'.G X'.w v l:=(a.ext h.e).weaken λb _ d e=>d (h.z b e)
def c42{X X':Cx}(h:X.Le X'){c:U.C}{cs:O A5}{x:U.T c}(a:(Rp c).rep X.G X.w cs x):(Rp c).rep X'.G X'.w cs x:=(Rp c).weaken ((Rp c).ext a h.e) λb _ d e=>d (h.z b e)
theorem l9j.le {X X':Cx} (h:X.Le X') {a:U.AV} {v:Value} (ha:l9j X a v):l9j X' a v:=by
 cases a<;>first
  | exact ⟨(h.u _ ha.1).1,by rw [(h.u _ ha.1).2];exact ha.2.1,ha.2.2⟩
  | exact ha.elim
theorem l9j.avr {X:Cx} {a:U.AV} {v:Value} (ha:l9j X a v):a1p X a v:=by
 cases a<;>first
  | exact ha.elim
  | exact ha
theorem b79.le {X X':Cx} (h:X.Le X') {a:U.AV} {v:Value} (ha:b79 X a v):b79 X' a v:=by
 cases a<;>simp only [b79] at* <;>first
  | omega
  | (obtain ⟨cs,hv,hr⟩:=ha;exact ⟨cs,hv,c42 h hr⟩)
  | exact k9.le h ha
  | (obtain ⟨ad,cs,hv,hb,hg,hc,hr⟩:=ha
     exact ⟨ad,cs,hv,Nat.lt_of_lt_of_le hb h.e.size,fun hz=>hg (fun hh=>hz (h.z _ hh)),hc.of_block (h.e.block _ hb hg),hr.le h⟩)
  | (obtain ⟨vs,hv,hr⟩:=ha;exact ⟨vs,hv,hr.mono fun _ _ hh=>hh.le h⟩)
  | (obtain ⟨hu,hv⟩:=ha;exact ⟨(h.u _ hu).1,by rw [(h.u _ hu).2];omega⟩)
  | (obtain ⟨b,mb,s,c,hv,⟨h1,h2⟩,⟨h3,h4⟩,h5,h6⟩:=ha
     exact ⟨b,mb,s,c,hv,⟨Nat.lt_of_lt_of_le h1 h.e.size,fun hz=>h2 (fun hh=>hz (h.z _ hh))⟩,⟨Nat.lt_of_lt_of_le h3 h.e.size,fun hz=>h4 (fun hh=>hz (h.z _ hh))⟩,(h.e.block _ h1 h2).trans h5,(h.e.block _ h3 h4).trans h6⟩)
def a1p.le{X X':Cx}(h:X.Le X'){a:U.AV}{v:A5}(d:a1p X a v):a1p X' a v:=by
 cases a;case st c l=>let ⟨b,i,k,e,j⟩:=d;exact⟨b,i,k,e,j.mono λ_ _⟨u,f,g⟩=>⟨u,f,b79.le h g⟩⟩
 all_goals simp [a1p]at d⊢;exact b79.le h d
def AVR.le{X X':Cx}(h:X.Le X'){a:U.AV}{v:A5}(d:AVR X a v):AVR X' a v:=by cases a<;>simp only[AVR]at*<;>first|exact a1p.le h d|(let ⟨p,c,j⟩:=d;exact⟨p,c,j.mono λ_ _ b=>b.le h⟩)|(let ⟨u,c,j⟩:=d;exact⟨u,c,j.le h⟩)|(let ⟨k,q,c,⟨g,e⟩,⟨m,n⟩,l,i,r⟩:=d;exact⟨k,q,c,⟨Nat.lt_of_lt_of_le g h.e.size,λf=>e (λb=>f (h.z _ b))⟩,⟨Nat.lt_of_lt_of_le m h.e.size,λf=>n (λb=>f (h.z _ b))⟩,(h.e.block _ g e).trans l,i,(h.e.block _ m n).trans r⟩)|(let ⟨k,o,c,⟨g,e⟩,l,i⟩:=d;exact⟨k,o,c,⟨Nat.lt_of_lt_of_le g h.e.size,λf=>e (λb=>f (h.z _ b))⟩,(h.e.block _ g e).trans l,k9.le h i⟩)
theorem AVR.of1 {X:Cx} {a:U.AV} {v:Value} (h:a1p X a v):AVR X a v:=by
 cases a<;>first
  | exact h
  | (obtain ⟨vs,hv,hr⟩:=h;exact ⟨vs,hv,hr.mono fun _ _ hh=>hh.avr⟩)
  | exact h.elim
def MR.le{X X':Cx}(h:X.Le X'){m:U.MC}{v:A5}(i:MR X m v)(j:∀b,MB m v b->b<X.w.heap.size->X'.w.heap[b]?=X.w.heap[b]?):MR X' m v:=by
 cases m<;>simp only[MR]at*;case box t a=>let ⟨b,u,f,y,A⟩:=i;subst f;exact⟨b,u,rfl,(j b rfl y.lt).trans y,A.le h⟩
 case sl e c l=>
  let ⟨k,w,z⟩:=i;refine⟨k,?_,z.mono λ_ _ d=>c42 h d⟩;rcases w with w|⟨g,o,n,x,f,B,d,r⟩;.exact .inl w
  .subst f;exact .inr ⟨g,o,n,x,rfl,B,(j g rfl (qN.1 d).1).trans d,r⟩
 case fz c l=>exact k9.le h i
 case it s p=>let ⟨b,f,q,d⟩:=i;subst f;exact⟨b,rfl,q,(j b rfl (qN.1 d).1).trans d⟩
 case mp l=>let ⟨b,f,q,d⟩:=i;subst f;exact⟨b,rfl,q,(j b rfl (qN.1 d).1).trans d⟩
structure Env where
 w0:World
 G:Nat->Prop
 Z:Nat->Prop
 pin:Nat->Prop
 π0:Nat->A5
def b7a(σ:U.St)(id:Nat):Prop:=σ.mem id≠.never
def cx(Z:Nat->Prop)(a:Nat->A5)(σ:U.St)(w:World):Cx:=⟨Z,a,b7a σ,w⟩
structure Rel(E:Env)(Z:Nat->Prop)(π:Nat->A5)(σ:U.St)(ρ:Nat->A5)(w:World):Prop where
 slot:∀t,AVR (cx Z π σ w) (σ.slot t) (ρ t)mem:∀id,MR (cx Z π σ w) (σ.mem id) (π id)own:∀id b,MB (σ.mem id) (π id) b->¬Z b/\b<w.heap.size/\(E.G b\/E.w0.heap.size<=b)dist:∀id id' b,id≠id'->MB (σ.mem id) (π id) b->¬MB (σ.mem id') (π id') b
 zlt:∀b,Z b->b<w.heap.size
 zin:∀b,Z b->E.Z b\/E.G b\/E.w0.heap.size<=b
 zout:∀b,E.Z b->Z b
 ext:Ext E.G E.w0 w
 pin:∀id,E.pin id->b7a σ id/\π id=E.π0 id
 tab:U.tab E.w0/\∀b,U.tb b->b<E.w0.heap.size/\¬E.G b
def Rel.tabw(d:UOK U){E:Env}{Z:Nat->Prop}{c:Nat->A5}{σ:U.St}{ρ:Nat->A5}{w:World}(h:Rel E Z c σ ρ w):U.tab w:=d.tabK _ _ h.tab.1 λb a=>h.ext.block b (h.tab.2 b a).1 (h.tab.2 b a).2
def d19{G c:Nat->Prop}{b w w':World}(h:Ext c b w)(a:Ext G w w')(g:∀x,G x->c x\/b.heap.size<=x):Ext c b w':=⟨a.os.trans h.os,a.tape.trans h.tape,a.output.trans h.output,Nat.le_trans h.size a.size,λi d e=>(a.block i (Nat.lt_of_lt_of_le d h.size) (λf=>(g i f).elim e (by omega))).trans (h.block i d e)⟩
def c7z{b:Type}(t:Nat):∀(l r:O (Nat×b)),lk t (l++r)=match lk t l with|some a=>some a|none=>lk t r
 |[],r=>rfl|(k,a)::l,r=>by show(bif Nat.beq k t then some a else lk t (l++r))=_;rw[c7z t l r];show _=match(bif Nat.beq k t then some a else lk t l)with|some a=>some a|none=>lk t r;grind
def b1x{c:Type}{t:Nat}:∀{l:O (Nat×c)}{a:c},lk t l=some a->(t,a)∈l|[],a,h=>by cases h|(k,b)::l,a,h=>by have d:(bif Nat.beq k t then some b else lk t l)=some a:=h;cases f:Nat.beq k t with|true=>simp_all|false=>rw[f]at d;exact qJ _ (b1x d)
def o8(σ:U.St)(d:A3 Tmp)(a:U.AV)(b:O (Nat×U.MC))(id:Nat):(σ.app d a b).mem id=match lk id b with|some m=>m|none=>σ.mem id:=by
 have h:(σ.app d a b).me=b++σ.me:=by cases d<;>rfl
 unfold St.mem;rw[h,c7z];grind
def s9(σ:U.St)(d:A3 Tmp)(a:U.AV)(b:O (Nat×U.MC))(t:Nat):(σ.app d a b).slot t=if d=some t then a else σ.slot t:=by cases d with|none=>rfl|some d=>simp [St.slot,St.app,St.put,lk];cases c:Nat.beq d t with|true=>simp_all|false=>simp_all[Nat.ne_of_beq_eq_false]
def c9j(ρ:Nat->A5)(d:A3 Tmp)(v:A5)(t:Nat):b20 ρ d v t=if d=some t then v else ρ t:=by cases d with|none=>rfl|some d=>simp [b20,upd,Option.some.injEq];grind
def Rel.next{E:Env}{Z:Nat->Prop}{F:Nat->A5}{σ:U.St}{ρ:Nat->A5}{w:World}(h:Rel E Z F σ ρ w){w':World}{Z':Nat->Prop}{k:Nat->A5}{l:O (Nat×U.MC)}{d:A3 Tmp}{v:A5}{a:U.AV}(J:Ext (λb=>∃id m,lk id l=some m/\MB (σ.mem id) (F id) b) w w')(Q:∀b,Z b->Z' b)(I:∀b,Z' b->Z b\/(w.heap.size<=b/\b<w'.heap.size)\/∃id m,lk id l=some m/\MB (σ.mem id) (F id) b)(z:∀id,b7a σ id->k id=F id)(L:∀id m,lk id l=some m->m≠.never)(V:∀id m,lk id l=some m->MR (cx Z' k (σ.app d a l) w') m (k id))(P:∀id m b,lk id l=some m->MB m (k id) b->¬Z' b/\b<w'.heap.size/\(w.heap.size<=b\/∃r M,lk r l=some M/\MB (σ.mem r) (F r) b))(R:∀id c m y b,id≠c->lk id l=some m->lk c l=some y->MB m (k id) b->¬MB y (k c) b)(Y:AVR (cx Z' k (σ.app d a l) w') a v):Rel E Z' k (σ.app d a l) (b20 ρ d v) w':=by
 have G:(cx Z F σ w).Le (cx Z' k (σ.app d a l) w'):=by refine⟨Q,J.mono λb⟨id,m,_,o⟩n=>(h.own id b o).1 n,λid B=>⟨?_,z id B⟩⟩;show(σ.app d a l).mem id≠.never;rw[o8];cases p:lk id l with|none=>exact B|some m=>exact L id m p
 have s:∀{id b},lk id l=none->(MB (σ.mem id) (k id) b↔MB (σ.mem id) (F id) b):=by
  intro id b p;by_cases B:b7a σ id;.rw[z id B]
  .have:=Classical.not_not.1 B;rw[this];exact Iff.rfl
 constructor
 .intro t;rw[s9,c9j];split;.omega
  .exact(h.slot t).le G
 .intro id;rw[o8];cases p:lk id l with|some m=>exact V id m p|none=>
    by_cases B:b7a σ id
    .rw[z id B];refine MR.le G (h.mem id) λb o N=>J.block b N ?_;rintro⟨c,y,f,g⟩;have q:id≠c:=λe=>by subst e;rw[p]at f;cases f
     exact h.dist id c b q o g
    .have:=Classical.not_not.1 B;rw[this];trivial
 .intro id b o;rw[o8]at o
  cases p:lk id l with|some m=>
    rw[p]at o;let ⟨A,D,C⟩:=P id m b p o;refine⟨A,D,?_⟩;rcases C with C|⟨r,M,_,H⟩;.exact .inr (Nat.le_trans h.ext.size C)
    .exact(h.own r b H).2.2|none=>
    rw[p]at o;have x:=(s p).1 o;let ⟨A,D,C⟩:=h.own id b x;refine⟨λn=>?_,Nat.lt_of_lt_of_le D J.size,C⟩;rcases I b n with n|n|⟨c,y,f,g⟩;.exact A n
    .omega
    .have q:id≠c:=λe=>by subst e;rw[p]at f;cases f
     exact h.dist id c b q x g
 .intro id c b q o g;rw[o8]at o g;have u:∀{i j m},i≠j->lk i l=some m->lk j l=none->MB m (k i) b->MB (σ.mem j) (F j) b->False:=by
   intro i j m X W S A D;let ⟨_,_,C⟩:=P i m b W A;rcases C with C|⟨r,M,K,H⟩;.have:=(h.own j b D).2.1;omega
   .exact h.dist r j b (λe=>by subst e;rw[S]at K;cases K) H D
  cases p:lk id l with
  |some m=>rw[p]at o;cases f:lk c l with|some y=>rw[f]at g;exact R id c m y b q p f o g|none=>rw[f]at g;exact u q p f o ((s f).1 g)
  |none=>rw[p]at o;have x:=(s p).1 o;cases f:lk c l with|some y=>rw[f]at g;exact u (Ne.symm q) f p g x|none=>rw[f]at g;exact h.dist id c b q x ((s f).1 g)
 .intro b n;rcases I b n with n|n|⟨c,y,f,g⟩;.exact Nat.lt_of_lt_of_le (h.zlt b n) J.size
  .omega
  .exact Nat.lt_of_lt_of_le (h.own c b g).2.1 J.size
 .intro b n;rcases I b n with n|n|⟨c,y,f,g⟩;.exact h.zin b n
  .exact .inr (.inr (Nat.le_trans h.ext.size n.1))
  .exact .inr (h.own c b g).2.2
 .intro b n;exact Q b (h.zout b n)
 .exact d19 h.ext J λb⟨id,m,_,o⟩=>(h.own id b o).2.2
 .intro id T;let ⟨A,D⟩:=h.pin id T;exact⟨(G.u id A).1,(z id A).trans D⟩
 .exact h.tab
end
section
variable {P:Program} {U:Uni} {E:Env} {Z:Nat -> Prop} {π:Nat -> A5} {σ:U.St} {ρ:Nat -> A5} {w:World}
def a48(P:Program)(E:Env)(σ:U.St)(ρ:Nat->A5)(w:World)(o:Oper)(a:U.AV)(d:O (Nat×U.MC)):Prop:=a0k P o (ev ρ) w λu e=>∃c b,Rel E c b (σ.app o.dst a d) (b20 ρ o.dst u) e
def f3v{d:A3 Tmp}{a:U.AV}{id:Nat}:b7a (σ.app d a []) id↔b7a σ id:=by unfold b7a;rw[o8];exact Iff.rfl
def g9q{d:A3 Tmp}{a:U.AV}:cx Z π (σ.app d a []) w=cx Z π σ w:=by unfold cx;congr 1;funext b;simp_all[f3v]
def Rel.val(h:Rel E Z π σ ρ w){w':World}(i:Ext noG w w'){d:A3 Tmp}{a:U.AV}{v:A5}(k:AVR (cx Z π σ w) a v):Rel E Z π (σ.app d a []) (b20 ρ d v) w':=by refine h.next (i.mono λ_ c=>c.elim) (λ_ c=>c) (λ_ c=>.inl c) (λ_ _=>rfl) (λf m e=>by cases e) (λf m e=>by cases e) (λf m b e=>by cases e) (λf j m l b _ e=>by cases e) ?_;rw[g9q];have g:(cx Z π σ w).Le (cx Z π σ w'):=⟨λ_ c=>c,i.of_no,λ_ c=>⟨c,rfl⟩⟩;exact AVR.le g k
def g8(h:Rel E Z π σ ρ w){o:Oper}{a:U.AV}{v:A5}(c:YV P (ev ρ) w o v)(b:AVR (cx Z π σ w) a v):a48 P E σ ρ w o a []:=by unfold a48 a0k;rw[c];exact⟨Z,π,h.val (Ext.refl _ _) b⟩
def e8m{X:Cx}{v:A5}{a:U.AV}(h:c3p v=some a):AVR X a v:=by unfold c3p at h;split at h<;>first|(cases h;rfl)|grind
def u6(h:Rel E Z π σ ρ w){x:Operand}{k:U.AV->U.Q}{i m:Nat}{v:U.AV}{e:O (Nat×U.MC)}(b:(rdO x k).Ev σ i m v e):∃a j,AVR (cx Z π σ w) a (ev ρ x)/\(k a).Ev σ j m v e:=by cases x with
 |tmp t=>exact⟨_,_,h.slot t,b.2⟩|const c=>simp [rdO]at b;cases d:(c3p c)with|none=>rw[d]at b;exact b.elim|some a=>rw[d]at b;exact⟨a,_,e8m d,b⟩
 |global g=>exact b.elim|func f=>exact⟨.clo f [],_,⟨[],rfl,trivial⟩,b⟩
def c5c(h:Rel E Z π σ ρ w):∀{g:O Operand}{k:O U.AV->U.Q}{d m:Nat}{v:U.AV}{c:O (Nat×U.MC)},(g03 g k).Ev σ d m v c->∃as f,y7 (AVR (cx Z π σ w)) as (g.map (ev ρ))/\(k as).Ev σ f m v c|[],k,d,m,v,c,b=>⟨[],d,trivial,b⟩|x::r,k,d,m,v,c,b=>by let ⟨a,f,j,b⟩:=u6 h b;let ⟨as,i,e,b⟩:=c5c h b;exact⟨a::as,i,⟨j,e⟩,b⟩
section
variable {d:A3 Tmp} {ty:TypeId} {ps:String} {af:Array Edge} {g:A3 (Nat×Bool)} {x y z:Operand} {m0 m:Nat} {a b c v:U.AV} {ws:O (Nat×U.MC)} {fr:Nat}
def d5a(h:Rel E Z π σ ρ w){op:Op}(e:op=.move x\/op=.assign x)(f:(rdO x λa=>(.done a []:U.Q)).Ev σ m0 m v ws):a48 P E σ ρ w ⟨d,op,ty,ps,af,g⟩ v ws:=by
 obtain⟨a,k,i,j,rfl,rfl⟩:=u6 h f;rcases e with rfl|rfl;.exact g8 h (c08 rfl) i
 .exact g8 h (b7t rfl) i
def f7z(h:Rel E Z π σ ρ w){op:BinOp}{t F:TypeId}(i:AVR (cx Z π σ w) a (ev ρ x))(j:AVR (cx Z π σ w) b (ev ρ y))(e:(h2n P op t a b).Ev σ m0 m v ws):a48 P E σ ρ w ⟨d,.binOp op t x y F,ty,ps,af,g⟩ v ws:=by
 cases a<;>try exact e.elim
 case int k n=>
  cases b<;>try exact e.elim
  rename_i D H;cases op;case shl=>obtain⟨c,o,q,rfl,rfl⟩:=e;exact g8 h (h4c i j (d65 o).1 (d65 o).2) rfl
  case shr=>obtain⟨c,o,q,rfl,rfl⟩:=e;exact g8 h (h3d i j (d8z o).1 (d8z o).2) rfl
  all_goals have f:(match eqK k D with|true=>binI _ k n H|false=>(.fail:U.Q)).Ev σ m0 m v ws:=e;unfold eqK at f;cases u:decEq k D with|isFalse I=>rw[u]at f;exact f.elim|isTrue G=>rw[u]at f;subst G;first
      |exact f.elim|(obtain⟨q,r,l⟩:=f;subst r;subst l;refine g8 h (?_:YV P (ev ρ) w _ (.int k _)) rfl;first|exact g98 i j rfl|exact g52 i j rfl|exact h3l i j rfl|exact h25 i j rfl|exact o_or i j rfl|exact h3g i j rfl)|(obtain⟨q,r,l⟩:=f;subst r;subst l;refine g8 h (?_:YV P (ev ρ) w _ (.bool _)) rfl;first|exact g6f i j rfl|exact h3m i j rfl|exact h2t i j rfl|exact g54 i j rfl|exact h4d i j rfl|exact h32 i j rfl)
      | (obtain⟨c,o,q,r,l⟩:=f;subst r;subst l;split at o;.grind
         .rename_i B;first|exact g8 h (h45 i j B (qH o)) rfl|exact g8 h (h3b i j B (qH o)) rfl)
 case str s=>
  cases b<;>try exact e.elim
  rename_i C;have i:ev ρ x=.string s:=i;have j:ev ρ y=.string C:=j;cases op<;>first|exact e.elim|(obtain⟨c,o,q,rfl,rfl⟩:=e;exact g8 h (g82 i j o) rfl)|(obtain⟨q,rfl,rfl⟩:=e;exact g8 h (g9p i j rfl) rfl)|(obtain⟨q,rfl,rfl⟩:=e;exact g8 h (g7f i j rfl) rfl)|(obtain⟨q,rfl,rfl⟩:=e;refine g8 h (v:=.bool (Op.bytesLess s.toList C.toList)) ?_ rfl;simp[YV,execOp,i,j,eqGuard,binOp,Op.stringOp])
 case bool p=>
  cases b<;>try exact e.elim
  rename_i J;simp only[h2n]at e;split at e;.rename_i A;cases op<;>first|exact e.elim|(obtain⟨q,rfl,rfl⟩:=e;exact g8 h (g7c i j A rfl) rfl)|(obtain⟨q,rfl,rfl⟩:=e;exact g8 h (g7v i j A rfl) rfl)
  .exact e.elim
def g5v(h:Rel E Z π σ ρ w){op:UnOp}{t:TypeId}(f:AVR (cx Z π σ w) a (ev ρ x))(e:(unQ op a:U.Q).Ev σ m0 m v ws):a48 P E σ ρ w ⟨d,.unOp op t x,ty,ps,af,g⟩ v ws:=by cases op<;>cases a<;>first|exact e.elim|(obtain⟨i,rfl,rfl⟩:=e;first|exact g8 h (f0z f rfl) rfl|exact g8 h (h27 f rfl) rfl)
def b55{t:TypeId}{e:TypeDesc}(h:P.underlying t=some e):(underlying t).run P w=.ok e w:=by simp[underlying,program,Sem.run,h,pure,bind,Sem.bind]
def e9j(h:Rel E Z π σ ρ w){s t:TypeId}(j:AVR (cx Z π σ w) a (ev ρ x))(e:(g2y P s t a).Ev σ m0 m v ws):a48 P E σ ρ w ⟨d,.convert s t x,ty,ps,af,g⟩ v ws:=by
 unfold g2y at e;split at e;.rename_i k p o n i f;obtain⟨l,rfl,rfl⟩:=e;refine g8 h (g1u j ?_) rfl;simp[convert,b55 i,b55 f,Conv.intToInt]
 .rename_i q i f;obtain⟨l,rfl,rfl⟩:=e;refine g8 h (g1u j ?_) rfl;simp[convert,b55 i,b55 f]
 .exact e.elim
def d5k(h:Rel E Z π σ ρ w){i:Nat}(o:AVR (cx Z π σ w) a (ev ρ x))(e:(match a with|.tup as=>(match as[i]?with|some a=>(Q.done a []:U.Q)|none=>Q.fail)|_=>(Q.fail:U.Q)).Ev σ m0 m v ws):a48 P E σ ρ w ⟨d,.extract x i,ty,ps,af,g⟩ v ws:=by
 cases a<;>try exact e.elim
 simp at e;split at e;.rename_i r f;obtain⟨p,rfl,rfl⟩:=e;let ⟨q,k,n⟩:=o;let ⟨u,l,j⟩:=n.get f;refine g8 h (f1c k ?_) (AVR.of1 j);simp[Instr.extract,l]
 .exact e.elim
def f1x(h:Rel E Z π σ ρ w){e p q:Bool}(f:ev ρ x=.bool e)(j:ev ρ y=.bool p)(i:ev ρ z=.bool q):a48 P E σ ρ w ⟨d,.pick x y z,ty,ps,af,g⟩ (.bool (bif e then p else q):U.AV) []:=by
 cases e;.exact g8 h (e2v f i) rfl
 .exact g8 h (e22 f j) rfl
def a8m{X:Cx}{a:U.AV}{v:A5}(e:c1d a=true)(h:AVR X a v):a1p X a v:=by cases a<;>first|exact h|cases e
def b6t{X:Cx}:∀{as:O U.AV}{vs:O A5},as.all c1d=true->y7 (AVR X) as vs->y7 (a1p X) as vs|[],[],_,_=>trivial|a::as,v::vs,e,h=>by simp only[all_cons,qB]at e;exact⟨a8m e.1 h.1,b6t e.2 h.2⟩|[],_::_,_,f=>f.elim|_::_,[],_,f=>f.elim
def d43(h:Rel E Z π σ ρ w){f:FuncId}{cs:Array Operand}(e:(g03 cs.toList λas=>(match as.all c1d with|true=>(Q.done (.clo f as) []:U.Q)|false=>Q.fail)).Ev σ m0 m v ws):a48 P E σ ρ w ⟨d,.makeFunc (.func f) #[] cs,ty,ps,af,g⟩ v ws:=by
 let ⟨as,l,i,e⟩:=c5c h e;split at e;.rename_i j;obtain⟨k,rfl,rfl⟩:=e;refine g8 h (e5f (by apply Array.ext';simp)) ⟨_,rfl,b6t j i⟩
 .exact e.elim
end
end
section
variable {P:Program} {U:Uni} {X:Cx}
def e0t(l:O A5):l.toArray.toList=l:=by simp
def a9t(c:UOK U){G:Nat->Prop}{w:World}{a:U.AV}{cs:O A5}(h:e8 Rp G w a cs):cs.length=asz a:=by cases a<;>simp [e8]at h<;>first|(subst h;rfl)|exact(Rp _).len h|(let ⟨v,b,_⟩:=h;subst b;rfl)|(subst hc)|exact h.elim
def b0z(a:U.AV):osz (a07 a)=asz a:=by cases a<;>rfl
def a18{a:U.AV}{cs:O A5}(h:e8 Rp X.G X.w a cs):∃u,u.cells.toList=cs/\a1p X a u:=by cases a<;>simp only[e8]at h<;>first|(subst h;exact⟨_,rfl,rfl⟩)|(exact⟨.agg _,by simp[Value.cells],cs,rfl,h⟩)|(let ⟨v,i,b⟩:=h;refine⟨v,?_,b⟩;let ⟨a,j,k,_⟩:=k9.shape b;subst k;subst i;rfl)|(let ⟨l,c,f,e,g,d,b⟩:=h;subst f;exact⟨.pointer _,rfl,l,c,rfl,e,g,d,.of0 b⟩)|exact h.elim
def b1q{c:U.C}{l:O (U.T c)}{G:Nat->Prop}{w:World}{u:A5}(h:k9 (Rp c) G w u l):u.cells.toList=[u]:=by let ⟨a,d,b,_⟩:=k9.shape h;subst b;rfl
def b4w{a:U.AV}{u:A5}(b:c06 a=true\/a=.nils)(h:a1p X a u):e8 Rp X.G X.w a u.cells.toList:=by cases a<;>first
  |(rcases b with b|b<;>cases b;done)|(rfl)|(let ⟨f,d,e⟩:=h;subst d;simpa[e8,Value.cells]using e)|(exact⟨u,b1q h,h⟩)|(subst h;simp[e8,Value.cells])
  | (let ⟨g,f,d,j,i,c,e⟩:=h;subst d;rcases b with b|b;.exact⟨g,f,rfl,j,i,c,e.to0 b⟩
     grind)
def c6a{a b:U.AV}{cs:O A5}(d:AEq a b)(h:e8 Rp X.G X.w a cs):e8 Rp X.G X.w b cs:=by
 rcases d with rfl|⟨rfl,c,rfl⟩;.omega
 .exact⟨_,h,k9.nil _ _ _⟩
def e36{a b:U.AV}{u:A5}(d:AEq a b)(h:a1p X a u):a1p X b u:=by
 rcases d with rfl|⟨rfl,c,rfl⟩;.omega
 .subst h;exact k9.nil _ _ _
def c4y(d:UOK U){G:Nat->Prop}{w:World}:∀{as:O U.AV}{css:O (O A5)},y7 (e8 Rp G w) as css->css.flatten.length=((as.map a07).map osz).sum|[],[],_=>rfl|a::as,c::css,h=>by simp [flatten_cons,qL,map_cons,sum_cons,c4y d h.2,b0z,a9t d h.1]|[],_::_,b=>b.elim|_::_,[],b=>b.elim
def c96(a:UOK U){G:Nat->Prop}{w:World}{c:U.C}{x:U.T c}{css:O (O A5)}(h:y7 (e8 Rp G w) (U.flds c x) css):(Rp c).rep G w css.flatten x:=a91.2 ⟨by rw[c4y a h,a.lay,<-a.sum],css,rfl,h⟩
def c4d(i:UOK U){G:Nat->Prop}{w:World}{c:U.C}{x:U.T c}{cs:O A5}(h:(Rp c).rep G w cs x){n:Nat}{b:U.AV}(f:(U.flds c x)[n]?=some b):e8 Rp G w b ((cs.drop (off c n)).take (asz b))/\off c n+asz b<=cs.length:=by
 obtain⟨p,d,rfl,k⟩:=a91.1 h;have g:∀(e d:O _)(n:Nat)(b:U.AV),y7 (e8 Rp G w) e d->e[n]?=some b->e8 Rp G w b ((d.flatten.drop ((((e.map a07).take n).map osz).sum)).take (asz b))/\(((e.map a07).take n).map osz).sum+asz b<=d.flatten.length:=by intro e;induction e with|nil=>simp_all|cons a e l=>intro d n b h f;cases d with|nil=>exact h.elim|cons c d=>have j:=a9t i h.1;cases n with|zero=>simp at f;subst f;simp [take_zero,map_nil,sum_nil,drop_zero,flatten_cons,Nat.zero_add];rw[<-j,take_left];exact⟨h.1,by simp⟩|succ n=>let ⟨o,m⟩:=l d n b h.2 (by simpa using f);simp only[map_cons,take_succ_cons,map_cons,sum_cons,flatten_cons,b0z];refine⟨?_,by rw[qL];omega⟩;rw[<-j,drop_append,drop_eq_nil_of_le (by omega),nil_append];rw[show c.length+(((e.map a07).take n).map osz).sum-c.length=(((e.map a07).take n).map osz).sum by omega];omega
 have:=g _ _ n b k f;rw[i.lay]at this;exact this
def e71(d:UOK U){c:U.C}{x:U.T c}{n:Nat}{b:U.AV}(a:(U.flds c x)[n]?=some b):(U.lay c)[n]?=some (a07 b):=by grind[UOK.lay]
def d9e(f:UOK U){c:U.C}{x:U.T c}{cs:O A5}(h:(Rp c).rep X.G X.w cs x):∃u,u.cells.toList=cs/\a1p X (inj c x) u:=by unfold inj;cases g:U.ag c with|true=>exact⟨.agg _,by simp[Value.cells],cs,rfl,h⟩|false=>obtain⟨j,d,rfl,e⟩:=a91.1 h;have b:=f.lay c x;rw[f.sc c g]at b;cases i:U.flds c x with|nil=>simp_all|cons a r=>rw[i]at e b;cases r with|cons _ _=>simp_all|nil=>cases d with|nil=>exact e.elim|cons s d=>cases d with|nil=>let ⟨u,l,k⟩:=a18 e.1;grind|cons _ _=>exact e.2.elim
def a1w(d:UOK U)(c:U.C)(x:U.T c):c06 (inj c x)=true/\b0p (inj c x)=U.ag c/\asz (inj c x)=U.n c:=by unfold inj;cases g:U.ag c with|true=>exact⟨rfl,rfl,rfl⟩|false=>have b:=d.lay c x;have h:=d.kind c x;have e:=d.sum c;rw[d.sc c g]at b e;cases i:U.flds c x with|nil=>simp_all|cons a r=>cases r with|cons _ _=>simp_all|nil=>
       have f:a07 a=none:=by simp_all
       refine⟨(by simp_all),?_,?_⟩;.cases a<;>first|rfl|cases f
       .rw[<-b0z,f,e];rfl
def f2i{G:Nat->Prop}{w:World}{c b:U.C}{a:U.T b}{x:U.T c}(h:cst c a=some x){cs:O A5}(d:(Rp b).rep G w cs a):(Rp c).rep G w cs x:=by unfold cst at h;split at h;all_goals grind
def a3i{G:Nat->Prop}{w:World}{c b:U.C}{a:O (U.T b)}{x:O (U.T c)}(h:b8i c a=some x):∃d:b=c,x=d▸a:=by unfold b8i at h;split at h;all_goals simp_all
def a1p.of0{a:U.AV}{u:A5}(h:b79 X a u):a1p X a u:=by cases a<;>first|exact h|exact h.elim
def a1p.to0{a:U.AV}{u:A5}(b:a03 a=true)(h:a1p X a u):b79 X a u:=by cases a<;>first|exact h|(cases b)
def d1x(i:UOK U){X:Cx}{c:U.C}{f:U.T c}{as:O U.AV}{css:O (O A5)}(j:U.mkv c as=some f)(h:y7 (λa s=>∃u,u.cells.toList=s/\a1p X a u) as css):(Rp c).rep X.G X.w css.flatten f:=by have d:=i.mkl c as f j;have g:=i.kind c f;refine c96 i ?_;generalize m:U.flds c f=e at d g;clear j m;induction as generalizing css e with
 |nil=>cases css with
   |nil=>cases e with|nil=>trivial|cons _ _=>exact d.elim
   |cons _ _=>exact h.elim
 |cons a as n=>cases css with|nil=>exact h.elim|cons s css=>cases e with|nil=>exact d.elim|cons b e=>
       simp only[all_cons,qB]at g;let ⟨u,k,l⟩:=h.1;exact⟨c6a d.1 (by rw[<-k];exact b4w (by rcases d.1with rfl|⟨rfl,_⟩;all_goals grind) l),n h.2 e d.2 g.2⟩
def e03(f:UOK U){c:U.C}{b:U.T c}{as:O U.AV}{css:O (O A5)}(g:U.mkv c as=some b)(h:y7 (λa s=>∃u:A5,u.cells.toList=s/\b79 X a u) as css):(Rp c).rep X.G X.w css.flatten b:=d1x f g (h.mono λ_ _⟨u,e,d⟩=>⟨u,e,.of0 d⟩)
def f2j(h:UOK U){c:U.C}{e:U.T c}{as:O U.AV}(i:U.mkv c as=some e):as.all a03=true/\as.map a07=U.lay c:=by have f:=h.mkl c as e i;have g:=h.kind c e;have j:=h.lay c e;rw[<-j];generalize U.flds c e=d at f g;clear i j;induction as generalizing d with
 |nil=>cases d with|nil=>simp_all|cons _ _=>exact f.elim
 |cons a as l=>cases d with|nil=>exact f.elim|cons b d=>
     simp only[all_cons,qB]at g;let ⟨m,n⟩:=l d f.2 g.2;have k:a03 a=true/\a07 a=a07 b:=by
      rcases f.1with rfl|⟨rfl,c,rfl⟩;.refine⟨?_,rfl⟩;cases a<;>first|rfl|cases (g.1)
      .exact⟨rfl,rfl⟩
     grind
def c49{X:Cx}{a:U.AV}{u:A5}(b:a03 a=true)(h:b79 X a u):u.cells.toList.length=asz a:=by cases a<;>first
  |(cases b;done)|(rfl)|(obtain⟨d,rfl,c⟩:=h;exact(Rp _).len c)|(rw[b1q h];rfl)|(obtain⟨f,d,rfl,_⟩:=h;rfl)
  | (let ⟨_,_,e⟩:=h;have:u.cells.toList=[u]:=by cases u<;>first|rfl|cases e
     rw[this];rfl)
def d3f{b:U.AV}:∀{as:O U.AV}{css:O (O A5)}{n:Nat},y7 (λa s=>∃u:A5,u.cells.toList=s/\b79 X a u) as css->as.all a03=true->as[n]?=some b->∃u,b79 X b u/\(css.flatten.drop ((((as.map a07).take n).map osz).sum)).take (asz b)=u.cells.toList/\(((as.map a07).take n).map osz).sum+asz b<=css.flatten.length/\a03 b=true|[],_,n,_,_,d=>by simp_all|a::as,[],n,h,_,_=>h.elim|a::as,c::css,n,h,e,d=>by simp only[all_cons,qB]at e;let ⟨u,k,f⟩:=h.1;have g:=c49 e.1 f;rw[k]at g;cases n with|zero=>simp at d;subst d;refine⟨u,f,?_,?_,e.1⟩;all_goals simp_all|succ n=>
     obtain⟨i,j,p,o,l⟩:=d3f h.2 e.2 (by simpa using d);refine⟨i,j,?_,?_,l⟩;.simp [map_cons,take_succ_cons,sum_cons,flatten_cons,b0z];rw[drop_append,drop_eq_nil_of_le (by omega)];simp_all
     .simp only[map_cons,take_succ_cons,sum_cons,flatten_cons,b0z,qL];omega
def g2f{as:O U.AV}{css:O (O A5)}(h:y7 (λa s=>∃u:A5,u.cells.toList=s/\b79 X a u) as css)(b:as.all a03=true):css.flatten.length=((as.map a07).map osz).sum:=by induction as generalizing css with
 |nil=>cases css with|nil=>rfl|cons _ _=>exact h.elim
 |cons a as g=>cases css with|nil=>exact h.elim|cons c css=>simp only[all_cons,qB]at b;let ⟨u,e,f⟩:=h.1;have d:=c49 b.1 f;rw[e]at d;simp [flatten_cons,qL,map_cons,sum_cons,g h.2 b.2,b0z,d]
def b85(f:UOK U){c:U.C}{a:U.AV}{x:U.T c}(h:prj c a=some x){u:A5}(i:a1p X a u):(Rp c).rep X.G X.w u.cells.toList x:=by unfold prj at h;cases m:U.ag c with
 |true=>
   rw[m]at h;cases a<;>try grind
   case val q n=>let ⟨w,g,k⟩:=i;subst g;simpa[Value.cells]using f2i h k
   case st q v=>
    let ⟨o,g,_,_,k⟩:=i;subst g;dsimp only at h;split at h;.rename_i n d;simpa[Value.cells]using f2i h (e03 f d k)
    grind|false=>
   rw[m]at h;have d:=f.mkl c [a] x h;have j:=f.kind c x;have p:∃b,U.flds c x=[b]/\AEq a b:=by cases l:U.flds c x with|nil=>rw[l]at d;exact d.elim|cons b r=>rw[l]at d;cases r with|nil=>exact⟨b,rfl,d.1⟩|cons _ _=>exact d.2.elim
   let ⟨b,s,e⟩:=p;have t:=c96 f (css:=[u.cells.toList]) (by rw[s];exact⟨c6a e (b4w (by rcases e with rfl|⟨rfl,_⟩;all_goals simp_all) i),trivial⟩);simp_all
def d53(g:UOK U){c:U.C}{a:U.AV}{x:U.T c}(h:prj c a=some x):asz a=U.n c/\b0p a=U.ag c:=by unfold prj at h;cases j:U.ag c with
 |true=>
   rw[j]at h;have f:∀{i:U.C}{m:U.T i},cst c m=some x->i=c:=λh=>by
    unfold cst at h;split at h;.omega
    simp_all
   cases a<;>try(cases h)
   case val i m=>have:=f h;subst this;exact⟨rfl,rfl⟩
   case st i o=>
    dsimp only at h;split at h;.have:=f h;subst this;exact⟨rfl,rfl⟩
    simp_all|false=>rw[j]at h;have l:=g.mkl c [a] x h;have k:=g.sum c;have d:=g.lay c x;rw[g.sc c j]at k d;cases n:U.flds c x with|nil=>simp_all|cons b r=>
     rw[n]at l d;have p:a07 b=none:=by simp_all
     have e:a07 a=none:=by
      rcases l.1with rfl|⟨rfl,_⟩;.omega
      .rfl
     refine⟨by rw[<-b0z,e,k];rfl,?_⟩;cases a<;>first|rfl|cases e
def Loc(X:Cx)(a:U.AV)(ad:Addr):Prop:=∃u,a1p X a u/\CA X.w ad u.cells.toList
def c4n(a:UOK U){G:Nat->Prop}{w:World}{c:U.C}:∀(l:O (U.T c))(css:O (O A5))(k:Nat),y7 (e8 Rp G w) (l.map (inj c)) css->k<=l.length->(css.take k).flatten.length=k*U.n c|[],[],k,_,h=>by simp_all|[],_::_,_,h,_=>h.elim|_::_,[],_,h,_=>h.elim|y::l,s::css,0,_,_=>by simp|y::l,s::css,k+1,h,e=>by have b:=a9t a h.1;rw[(a1w a c y).2.2]at b;simp [take_succ_cons,flatten_cons,qL,b,c4n a l css k h.2 (by simp_all)];grind
def c3z{a b:Type}{l:O a}{n:Int}{y:a}(f:a->b)(h:c7 l n=some y):0<=n/\(l.map f)[n.toNat]?=some (f y)/\n.toNat<l.length:=by let ⟨d,e,c⟩:=b8d h;simp_all
def g36(b:UOK U){a:U.C}(d:U.isA a=true)(x:U.T a){k:Nat}(e:k<=(U.al a x).length):off a k=k*U.n (U.ae a):=by
 have c:∀(l:O _)(k:Nat),k<=l.length->((((l.map (inj (U.ae a))).map a07).take k).map osz).sum=k*U.n (U.ae a):=by intro l;induction l with|nil=>simp_all|cons y l f=>intro k h;cases k with|zero=>simp|succ k=>simp only[map_cons,take_succ_cons,sum_cons,b0z,(a1w b _ y).2.2];grind
 have:=c _ k e;rw[<-(b.arr a x d).1,b.lay a x]at this;exact this
def d3n(q:UOK U){d:U.C}{x:U.T d}(r:U.isA d=true){u:A5}(g:a1p X (.val d x) u){ad:Addr}(p:CA X.w ad u.cells.toList){n:Int}{y:U.T (U.ae d)}(m:c7 (U.al d x) n=some y):Loc X (inj (U.ae d) y) (ad.add (n.toNat*U.n (U.ae d))):=by
 let ⟨B,t,g⟩:=g;let ⟨_,b,e,a⟩:=a91.1 g;rw[(q.arr d x r).1]at a;obtain⟨_,j,z⟩:=c3z _ m;let ⟨s,v,l⟩:=a.get j;have o:=c4n q _ b n.toNat a (by omega);let ⟨w,i,h⟩:=a18 l;refine⟨w,h,?_⟩;have f:(b.flatten.drop (n.toNat*U.n (U.ae d))).take s.length=s:=by rw[<-o];clear o j z l a g e m;generalize n.toNat=k at v;induction b generalizing k with|nil=>simp_all|cons c b A=>cases k with|zero=>simp_all|succ k=>simp_all
 rw[i,<-f];subst t;rw[e]at p;refine CA.sub ?_ _ _;simpa[Value.cells]using p
def e1e{c:U.C}{y:U.T c}{p:O PE}{b:U.AV}(e:UOK U)(hn:nav (inj c y) p=some b):p=[]\/∃x,(inj c y)=(.val c x:U.AV):=by cases d:U.ag c with|true=>simp_all[inj]|false=>left;cases p with|nil=>rfl|cons q p=>have a:=(a1w e c y).2.1;rw[d]at a;cases f:inj c y<;>rw[f]at hn a<;>first|(done)|(cases a;done)|(cases q<;>cases hn)
def f2g{a:Type}{l:O a}{n:Int}(c:0<=n)(b:n<(l.length:Int)):∃y,c7 l n=some y:=by simp_all[c7]
def c99(l:UOK U){X:Cx}:∀(p:O PE)(a:U.AV)(c:U.C)(ad:Addr)(b:U.AV),Loc X a ad->(p=[]\/a07 a=some c)->okV c p->nav a p=some b->Loc X b (ad.add (b3g c p))
 |[],a,c,ad,b,h,_,_,d=>by cases d;simp_all[b3g,Addr.add]|.f n::p,a,c,ad,b,h,m,e,d=>by
   replace m:a07 a=some c:=(by grind);have v:∀k,(U.lay c)[n]?=some (a07 k)->nav k p=some b->Loc X k (ad.add (off c n))->Loc X b (ad.add (b3g c (.f n::p))):=by intro k j d t;simp [b3g,j];simp [okV,j]at e;rw[<-Addr.add_add];cases r:a07 k with|some J=>rw[r]at e;exact c99 l p k J _ b t (.inr r) e d|none=>cases p with|nil=>cases d;simpa[Addr.add]using t|cons q p=>cases k<;>first|(cases r;done)|(cases q<;>cases d)
   cases a<;>try(cases m;done)
   case val z x=>cases m;simp [nav]at d;cases s:(U.flds c x)[n]?with|none=>simp_all|some k=>rw[s]at d;let ⟨u,⟨S,w,D⟩,g⟩:=h;subst w;let ⟨A,H⟩:=c4d l D s;let ⟨E,B,C⟩:=a18 A;exact v k (e71 l s) d ⟨E,C,by rw[B];exact CA.sub g _ _⟩
   case st z M=>cases m;simp [nav]at d;cases s:M[n]?with|none=>simp_all|some k=>
      rw[s]at d;let ⟨u,⟨N,w,o,R,D⟩,g⟩:=h;subst w;let ⟨E,A,H,Q,_⟩:=d3f D R s;rw[o]at H Q;refine v k ?_ d ⟨E,.of0 A,?_⟩;.rw[<-o,getElem?_map,s];rfl
      .rw[<-H];exact CA.sub g _ _
 |.i n::p,a,c,ad,b,h,m,e,d=>by
   cases a<;>try(cases d)
   rename_i z x;replace m:=qH (m.resolve_left (λh=>by grind));subst m;simp [nav]at d;split at d;.rename_i F;let ⟨K,A,e⟩:=e;obtain⟨y,I⟩:=f2g K (by rw[(l.arr z x F).2];omega);rw[l.gt z x n y F I]at d;let ⟨u,w,g⟩:=h;have:=c99 l p _ _ _ b (d3n l F w g I) ((e1e l d).imp_right λ⟨x,L⟩=>by rw[L];rfl) e d;simp [b3g];rw[<-Addr.add_add];omega
   grind
section
variable {E:Env} {Z:Nat -> Prop} {π:Nat -> A5} {σ:U.St} {ρ:Nat -> A5} {w:World}
variable {d:A3 Tmp} {ty:TypeId} {ps:String} {af:Array Edge} {g:A3 (Nat×Bool)} {x y z:Operand} {m0 m:Nat} {a b c v:U.AV} {ws:O (Nat×U.MC)} {fr:Nat}
def b45{t:TypeId}{n:Nat}(h:e54 P t n=true){w:World}:(sizeOf t).run P w=.ok n w:=by
 unfold e54 at h;split at h;.rename_i i e;have:=qC h;subst this;simp[sizeOf,typeInfo,program,Sem.run,e,pure,bind,Sem.bind]
 grind
def b9m{t:TypeId}{b:Bool}(h:g6u P t b=true){w:World}:(isAgg t).run P w=.ok b w:=by
 unfold g6u at h;split at h;.rename_i k f;subst h;simp[isAgg,b55 f]
 .rename_i n e f;subst h;simp[isAgg,b55 f]
 .rename_i i l j f;cases b with|true=>grind|false=>simp only[isAgg,Sem.run_bind,b55 f,Result.andThen_ok];simp_all
 grind
def c0w{u:A5}(h:u.oneCell'=true):u.cells.toList=[u]:=by cases u<;>first|rfl|cases h
def c8g(B:UOK U){t:TypeId}{ad:Addr}{u:A5}(l:b33 P t a=true)(f:a1p X a u)(h:CA X.w ad u.cells.toList):(Instr.loadAt t (.pointer (some ad))).run P X.w=.ok u X.w:=by
 unfold b33 at l;simp [qB]at l;let ⟨⟨D,e⟩,q⟩:=l;cases j:b0p a with|true=>
   rw[j]at e;cases a<;>try(cases j;done)
   case val c x=>obtain⟨A,rfl,p⟩:=f;have k:=(Rp c).len p;refine d6h (n:=U.n c) ?_ k (by simp_all[Value.cells]);simp[Instr.loadAt,Instr.sureAddr,loadVar,b9m e,b45 q,asz]
   case st c F=>obtain⟨C,rfl,i,o,p⟩:=f;have k:=g2f p o;rw[i,<-B.sum]at k;refine d6h ?_ k (by simpa[Value.cells]using h);simp[Instr.loadAt,Instr.sureAddr,loadVar,b9m e,b45 q,asz]|false=>
   rw[j]at e;have r:u.cells.toList=[u]:=by cases a<;>first|(cases D;done)|(cases j;done)|(subst f;rfl)|exact b1q f|(let ⟨ad,A,f,_⟩:=f;subst f;rfl)|(let ⟨_,_,s⟩:=f;exact c0w s)
   rw[r]at h;exact e9v (by simp[Instr.loadAt,Instr.sureAddr,loadVar,b9m e]) h
def e33(j:UOK U){t:TypeId}{ad:Addr}(i:b33 P t a=true)(h:Loc X a ad):∃u,a1p X a u/\(Instr.loadAt t (.pointer (some ad))).run P X.w=.ok u X.w:=by let ⟨u,f,e⟩:=h;exact⟨u,f,c8g j i f e⟩
end
end
section
variable {P:Program} {U:Uni} {E:Env} {Z:Nat -> Prop} {π:Nat -> A5} {σ:U.St} {ρ:Nat -> A5} {w:World}
variable {d:A3 Tmp} {ty:TypeId} {ps:String} {af:Array Edge} {g:A3 (Nat×Bool)} {x y z:Operand} {m0 m:Nat} {a b v:U.AV} {ws:O (Nat×U.MC)} {fr:Nat}
def c0a{c e:U.C}(h:eqC c e=true):c=e:=by unfold eqC at h;split at h;all_goals grind
def Own.elem{n:Nat}{e:TypeId}{css:O (Raw n)}{u:A5}(f:Own 0 e n Subtype.val w u css){i:Int}{r:Raw n}(j:c7 css i=some r):∃ad c,u=.slice (some ad) css.length c/\(0<=i/\i<(css.length:Int))/\CA w (ad.add (i.toNat*n)) r.1:=by let ⟨l,q,B⟩:=b8d j;let ⟨ad,c,h,t,A⟩:=f.shape;cases ad with|none=>rcases f with⟨_,C⟩|⟨g,o,k,s,p,_⟩;all_goals simp_all|some ad=>exact⟨ad,c,h,⟨l,q⟩,CA.elem n (λr=>r.2.1) (f.ca h) j⟩
def c45{e c:Type}{p:e->c->Prop}{l:O e}{r:O c}(h:y7 p l r){i:Int}{y:c}(j:c7 r i=some y):∃x,c7 l i=some x/\p x y:=by let ⟨n,q,f⟩:=b8d j;let ⟨x,o,k⟩:=h.getR f;exact⟨x,by unfold c7;simp_all,k⟩
def g35(h:UOK U){X:Cx}{c:U.C}{y:U.T c}{cs:O A5}(f:(Rp c).rep X.G X.w cs y){ad:Addr}(j:CA X.w ad cs):Loc X (inj c y) ad:=by let ⟨u,i,e⟩:=d9e h f;exact⟨u,e,by grind ⟩
def e2m(G:UOK U)(h:Rel E Z π σ ρ w){id:Nat}{c:U.C}{p:O PE}{k:U.AV->U.Q}(o:p=[]\/c18 c (σ.mem id) p=true)(D:okP c p)(j:(g1o (σ.mem id) p k).Ev σ m0 m v ws):∃b,(k b).Ev σ m0 m v ws/\∀ad,c5g (π id)=some ad->Loc (cx Z π σ w) b (ad.add (d2l c p)):=by
 have M:=h.mem id;cases L:σ.mem id<;>rw[L]at j M o<;>try exact j.elim
 case box t B=>
  have H:(match nav B p with|some b=>k b|none=>.fail).Ev σ m0 m v ws->(p=[]\/a07 B=some c)->okV c p->∃b,(k b).Ev σ m0 m v ws/\∀ad,c5g (π id)=some ad->Loc (cx Z π σ w) b (ad.add (b3g c p)):=by intro j o D;cases A:nav B p with|none=>rw[A]at j;exact j.elim|some b=>rw[A]at j;refine⟨b,j,λad s=>?_⟩;let ⟨T,u,J,W,V⟩:=M;rw[J]at s;cases s;exact c99 G p B c _ b ⟨u,V,W.ca⟩ o D A
  have I:∀C,B=C->g59 c (.box t C)=true->a07 C=some c:=by
   intro C _ o;cases C<;>try(cases o)
   all_goals have:=c0a o;subst this;rfl
  cases p with|nil=>exact H (by cases B<;>exact j) (.inl rfl) trivial|cons q p=>replace o:=o.resolve_left (λh=>by grind);cases q with|f n=>exact H (by cases B<;>exact j) (.inr (I B rfl (by cases B<;>exact o))) D|i n=>
      have F:nav B (.i n::p)=none->(match nav B (.i n::p)with|some b=>k b|none=>.fail).Ev σ m0 m v ws->∃b,(k b).Ev σ m0 m v ws/\∀ad,c5g (π id)=some ad->Loc (cx Z π σ w) b (ad.add (d2l c (.i n::p))):=by intro A j;rw[A]at j;exact j.elim
      cases B<;>try exact F rfl j
      rename_i ca x;have j:(match U.isA ca with|true=>Q.opt _ _|false=>(.fail)).Ev σ m0 m v ws:=j;have o:(U.isA ca&&eqC c _)=true:=o;simp [qB]at o;rw[o.1]at j;let ⟨y,N,j⟩:=j;have X:=c0a o.2;subst X;dsimp only at j;cases A:nav _ p with|none=>rw[A]at j;exact j.elim|some b=>rw[A]at j;refine⟨b,j,λad s=>?_⟩;let ⟨T,u,J,W,V⟩:=M;rw[J]at s;cases s;have:=c99 G p _ _ _ b (d3n G o.1 V W.ca N) ((e1e G A).imp_right λ⟨x,Y⟩=>by rw[Y];rfl) D A;rw[Addr.add_add]at this;exact this
 case sl e c' l=>cases p with|nil=>exact j.elim|cons q p=>cases q with|f n=>exact j.elim|i n=>
      have o:eqC c c'=true:=by
       rcases o with o|o;.grind
       .exact o
      have:=c0a o;subst this;let ⟨y,N,j⟩:=j;dsimp only at j;cases A:nav _ p with|none=>rw[A]at j;exact j.elim|some b=>rw[A]at j;refine⟨b,j,λad s=>?_⟩;let ⟨css,hO,hr⟩:=M;let ⟨r,R,K⟩:=c45 hr N;let ⟨ad',cap,J,_,S⟩:=Own.elem hO R;rw[J]at s;cases s;have:=c99 G p _ c _ b (g35 G K S) ((e1e G A).imp_right λ⟨x,Y⟩=>by rw[Y];rfl) D A;rw[Addr.add_add]at this;exact this
def c1z(c:UOK U)(h:Rel E Z π σ ρ w){t:TypeId}{ad:Addr}(e:ev ρ x=.pointer (some ad))(i:b33 P t b=true)(k:Loc (cx Z π σ w) b ad):a48 P E σ ρ w ⟨d,.load t x,ty,ps,af,g⟩ b []:=by let ⟨u,j,f⟩:=e33 c i k;exact g8 h (d32 e f) (AVR.of1 j)
def f5n{t:TypeId}(h:g6l P t=true):∃n,n≠0/\(sizeOf t).run P w=.ok n w:=by
 unfold g6l at h;split at h;.rename_i i c;refine⟨i.size,λe=>?_,by simp[sizeOf,typeInfo,program,Sem.run,c,pure,bind,Sem.bind]⟩;simp_all
 grind
def c36{s:TypeId}{fs:Array Field}{f:Nat}{c:Field}{ad:Addr}(j:P.underlying s=some (.struct fs))(i:fs[f]?=some c)(e:g6l P c.type=true):(Instr.fieldAt s (.pointer (some ad)) f).run P w=.ok (.pointer (some (ad.add c.offset))) w:=by let ⟨n,h,k⟩:=f5n (w:=w) e;simp[Instr.fieldAt,b55 j,i,Instr.sureAddr,fieldPlace,k,h]
def e5z(K:UOK U)(h:Rel E Z π σ ρ w){s:TypeId}{f:Nat}(r:AVR (cx Z π σ w) a (ev ρ x))(e:(e7u P s f a).Ev σ m0 m v ws):a48 P E σ ρ w ⟨d,.fieldAddr s x f,ty,ps,af,g⟩ v ws:=by
 unfold e7u at e;split at e;case h_2=>exact e.elim
 rename_i N F;split at e;case h_2=>exact e.elim
 rename_i S B;split at e
 .rename_i c L;split at e
  .rename_i b i H;obtain⟨n,rfl,rfl⟩:=e;simp [qB]at i;let ⟨X,R,l,C,V,j,G⟩:=r;let ⟨J,W⟩:=c4d K G H;refine g8 h (c3e l (c36 F B i.2)) ⟨_,_,rfl,?_,?_,CA.sub j (off c f) (asz b)|>λq=>?_,J⟩;.rw[a2h];omega
   .rw[a2h];omega
   simp_all
  .exact e.elim
 .rename_i D;simp [Q.Ev]at e;split at e
  .rename_i t Y k;split at e;case h_2=>exact e.elim
   rename_i c j;split at e
   .rename_i i;obtain⟨n,rfl,rfl⟩:=e;simp only[qB,decide_eq_true_eq]at i;have A:=h.mem D;rw[k]at A;let ⟨p,u,l,T,M⟩:=A;refine g8 h (c3e (r.2.1.trans l) (c36 F B i.1.2)) ⟨r.1,⟨p,0,none⟩,?_,?_,?_⟩;.show c5g (π D)=_;rw[l];rfl
    .simp [okP,okV];cases I:(U.lay c)[f]?with|none=>grind|some o=>cases o<;>trivial
    .rw[<-(qC i.1.1)];simp [d2l,b3g];cases I:(U.lay c)[f]?with|none=>simp|some o=>cases o<;>simp[b3g]
   .exact e.elim
  .exact e.elim
 .exact e.elim
def c15:∀(p:O PE)(c e:U.C)(q:PE),c34 c p=some e->b3g c (p++[q])=b3g c p+b3g e [q]/\(okV c p->okV e [q]->okV c (p++[q]))
 |[],c,e,q,h=>by cases h;exact⟨(Nat.zero_add _).symm,λ_ h=>h⟩|.f n::p,c,e,q,h=>by
   simp [c34]at h;split at h;.rename_i k r;let ⟨o,l⟩:=c15 p k e q h;simp [cons_append,b3g,okV,r];grind
   grind|.i n::p,c,e,q,h=>by
   simp [c34]at h;split at h;.let ⟨o,l⟩:=c15 p _ e q h;simp [cons_append,b3g,okV];grind
   grind
def c5f{p:O PE}{c e:U.C}{q:PE}(h:(match p with|.i _::q=>c34 c q|_=>c34 c p)=some e)(j:p=[]->∃n,q=.f n):d2l c (p++[q])=d2l c p+b3g e [q]/\(okP c p->okV e [q]->okP c (p++[q])):=by match p,h,j with|[],h,j=>obtain⟨n,rfl⟩:=j rfl;exact c15 [] c e _ h|.f n::p,h,_=>exact c15 _ c e q h|.i n::p,h,_=>let ⟨l,k⟩:=c15 p c e q h;refine⟨?_,k⟩;show n.toNat*U.n c+b3g c (p++[q])=n.toNat*U.n c+b3g c p+_;omega
def f5b{p:O PE}{c j:U.C}{n:Int}(h:(match p with|[]=>none|.i _::q=>c34 c q|.f k::q=>c34 c (.f k::q))=some j):d2l c (p++[.i n])=d2l c p+b3g j [.i n]/\(okP c p->okV j [.i n]->okP c (p++[.i n])):=by cases p with|nil=>grind|cons q p=>cases q with|f k=>exact c5f h λe=>by grind|i k=>exact c5f h λe=>by grind
def h1g{c:U.C}{f:Nat}:b3g c [.f f]=off c f:=by grind[b3g]
def h36{c:U.C}{f:Nat}:okV c [.f f]:=by grind[okV]
def d98(h:Rel E Z π σ ρ w){s:TypeId}{f id:Nat}{c:U.C}{p:O PE}(q:AVR (cx Z π σ w) (.fref id c p) (ev ρ x))(e:(e0q P s f id c p).Ev σ m0 m v ws):a48 P E σ ρ w ⟨d,.fieldAddr s x f,ty,ps,af,g⟩ v ws:=by
 unfold e0q at e;split at e;case h_2=>exact e.elim
 rename_i D u;split at e;case h_2=>exact e.elim
 rename_i F A;let ⟨n,C,j,i,B⟩:=q;split at e
 .rename_i G l;split at e;.rename_i k;obtain⟨r,rfl,rfl⟩:=e;simp only[qB,decide_eq_true_eq]at k;let ⟨o,t⟩:=c5f l λ_=>⟨f,rfl⟩;refine g8 h (c3e B (c36 u A k.1.2)) ⟨n,C,j,t i h36,?_⟩;rw[o,h1g,<-qC k.1.1,Addr.add_add]
  .exact e.elim
 .exact e.elim
def e38{t:TypeId}{cs:O A5}{o:Nat}(q:b33 P t b=true)(r:e8 Rp (cx Z π σ w).G w b ((cs.drop o).take (asz b)))(B:o+asz b<=cs.length):∃u,a1p (cx Z π σ w) b u/\(part t cs.toArray o).run P w=.ok u w:=by
 unfold b33 at q;simp [qB]at q;let ⟨⟨F,f⟩,C⟩:=q;have j:=r
 let ⟨u,n,c⟩:=a18 r;refine⟨u,c,?_⟩;cases h:b0p b with|true=>
   rw[h]at f;cases b<;>try(cases h;done)
   case st=>exact j.elim
   let ⟨p,D,A⟩:=c;have e:=by simpa[Value.cells,asz]using n
   simp [part,Sem.run_bind,b9m f,Result.andThen_ok,if_true,b45 C,asz];simp_all|false=>
   rw[h]at f;have s:asz b=1:=by cases b<;>first|rfl|cases h
   rw[s]at n B;have i:o<cs.length:=by omega
   have k:u.cells.toList=[cs[o]]:=by rw[n,drop_eq_getElem_cons i,take_succ_cons,take_zero]
   have l:u=cs[o]:=by cases b<;>first|(done)|(cases h;done)|(subst c;simpa[Value.cells]using k)|(have:=b1q c;grind)|(let ⟨H,p,c,_⟩:=c;subst c;simpa[Value.cells]using k)|exact j.elim
   simp[part,b9m f,i,l]
def e4h(o:UOK U)(h:Rel E Z π σ ρ w){t:TypeId}(T:AVR (cx Z π σ w) a (ev ρ x))(N:AVR (cx Z π σ w) b (ev ρ y))(f:(e7e P t a b).Ev σ m0 m v ws):a48 P E σ ρ w ⟨d,.index t x y,ty,ps,af,g⟩ v ws:=by
 unfold e7e at f;split at f;.rename_i s k n H;obtain⟨c,Y,hm,rfl,rfl⟩:=f;exact g8 h (g5o T N H Y) rfl
 .rename_i k e F Q n H;split at f;case h_2=>exact f.elim
  rename_i q;simp only[qB]at q;let ⟨⟨S,p⟩,I⟩:=q;have p:=qC p;let ⟨M,V,f⟩:=f;dsimp only at f;split at f;case h_2=>exact f.elim
  rename_i hf;obtain⟨hm1,rfl,rfl⟩:=f;let ⟨cs,X,W⟩:=T;let ⟨_,j,B,i⟩:=a91.1 W;rw[(o.arr F Q S).1]at i;obtain⟨h0,R,h2⟩:=c3z _ V;let ⟨s,hs,l⟩:=i.get R;have C:=c4n o _ j n.toNat i (by omega);have r:=(a9t o l).trans (a1w o _ M).2.2;have A:(j.flatten.drop (n.toNat*U.n (U.ae F))).take s.length=s/\n.toNat*U.n (U.ae F)+s.length<=j.flatten.length:=by rw[<-C];clear C R h2 l i W B V r;generalize n.toNat=k at hs;induction j generalizing k with|nil=>simp_all|cons c j ih=>cases k with|zero=>simp_all|succ k=>simp only[take_succ_cons,flatten_cons,qL];rw[drop_length_add_append];grind
  have G:=((a1w o _ M).2.2).trans r.symm;obtain⟨u,J,D⟩:=e38 (cs:=cs) hf (by rw[G,B,A.1];exact l) (by simp_all);have L:n<(k):=by have:=(o.arr F Q S).2;omega
  refine g8 h (show YV P _ w _ u from ?_) (AVR.of1 J);have K:ev ρ y=.int _ n:=N;simp[YV,execOp,X,K,Instr.index,asIntOf,run_underlying H,h0,L,b45 I,D]
 .exact f.elim
def e93{X:Cx}{t:TypeId}{cs:O A5}{o:Nat}{u:A5}(n:b33 P t b=true)(q:a03 b=true)(f:b79 X b u)(p:(cs.drop o).take (asz b)=u.cells.toList)(r:o+asz b<=cs.length):(part t cs.toArray o).run P w=.ok u w:=by
 unfold b33 at n;simp [qB]at n;let ⟨⟨B,c⟩,A⟩:=n;cases i:b0p b with|true=>
   rw[i]at c;cases b<;>try(cases i;done)
   case st=>cases q
   let ⟨s,C,D⟩:=f;have e:=by simpa[Value.cells,asz]using p.symm
   simp [part,Sem.run_bind,b9m c,Result.andThen_ok,if_true,b45 A,asz];simp_all|false=>
   rw[i]at c;have l:asz b=1:=by cases b<;>first|rfl|cases i
   rw[l]at p r;have j:o<cs.length:=by omega
   have h:u.cells.toList=[cs[o]]:=by rw[<-p,drop_eq_getElem_cons j,take_succ_cons,take_zero]
   have k:u=cs[o]:=by cases b<;>first|(cases q;done)|(cases i;done)|(subst f;simpa[Value.cells]using h)|(have:=b1q f;simp_all)|(let ⟨F,cs,f,_⟩:=f;subst f;simpa[Value.cells]using h)|(let ⟨_,_,l⟩:=f;rw[c0w l]at h;simp_all)
   simp[part,b9m c,j,k]
def e5u(H:UOK U)(h:Rel E Z π σ ρ w){s:TypeId}{f:Nat}(D:AVR (cx Z π σ w) a (ev ρ x))(c:(g4d P s f a).Ev σ m0 m v ws):a48 P E σ ρ w ⟨d,.field s x f,ty,ps,af,g⟩ v ws:=by
 unfold g4d at c;split at c;case h_2=>exact c.elim
 rename_i L C;split at c;case h_2=>exact c.elim
 rename_i J B;split at c
 .split at c;case h_2=>exact c.elim
  rename_i b t;split at c;case h_2=>exact c.elim
  rename_i j;obtain⟨o,rfl,rfl⟩:=c;simp only[qB]at j;let ⟨K,r,q⟩:=D;let ⟨n,l⟩:=c4d H q t;let ⟨u,p,i⟩:=e38 j.2 n l;refine g8 h (f0s r ?_) (AVR.of1 p);simp[Instr.field,b55 C,B,asAgg,<-(qC j.1),i]
 .split at c;case h_2=>exact c.elim
  rename_i b t;split at c;case h_2=>exact c.elim
  rename_i j;obtain⟨o,rfl,rfl⟩:=c;simp only[qB]at j;let ⟨G,r,k,F,q⟩:=D;let ⟨u,n,l,A,I⟩:=d3f q F t;rw[k]at l A;have i:=e93 (w:=w) j.1.2 I n l A;refine g8 h (f0s r ?_) (AVR.of1 (.of0 n));have e:=(qC j.1.1);simp only[off]at e;rw[e]at i;simp[Instr.field,b55 C,B,asAgg,i]
 .exact c.elim
end
end Go.SX
