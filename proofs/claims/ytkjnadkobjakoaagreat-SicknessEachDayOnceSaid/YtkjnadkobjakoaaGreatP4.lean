/- Texts of the proof, joined. -/
import Derived.Test.YtkjnadkobjakoaaGreatP3
import Derived.Sort.Defs
import Derived.Lib.BitFns
import Derived.Laws.Cover3
import Derived.WideKeyMaps
import Derived.MapKept
import Derived.Carry
import Derived.WalkKit
import Derived.ProofKit
import Derived.OpenShut
import Derived.Deep.DeepHandedRow
import Derived.Lib.LaidTab
import Derived.LaidOnce
import Derived.LaidMore
set_option linter.unusedVariables false
set_option linter.unusedSimpArgs false
set_option maxRecDepth 100000
namespace Go.SX
open Go Go.PL
section
variable {C:Type} {T:C -> Type}
def gI (k:IntKind):AV C T -> Option Int
 | .int k' n=>match decEq k' k with | .isTrue _=>some n | .isFalse _=>none
 | _=>none
def gB:AV C T -> Option Bool | .bool b=>some b | _=>none
def gS:AV C T -> Option ByteArray | .str s=>some s | _=>none
def gV (dec:DecidableEq C) (c:C):AV C T -> Option (T c)
 | .val c' x=>match dec c' c with | .isTrue h=>some (h▸x) | .isFalse _=>none
 | _=>none
def gL (dec:DecidableEq C) (c:C):AV C T -> Option (List (T c))
 | .nils=>some []
 | .list c' l=>match dec c' c with | .isTrue h=>some (h▸l) | .isFalse _=>none
 | _=>none
end
def mkS {α β γ:Type} (g:α -> Option β) (k:β -> List α -> Option γ):List α -> Option γ
 | []=>none
 | a::r=>Option.bind (g a) fun x=>k x r
def mkE {α γ:Type} (z:γ):List α -> Option γ
 | []=>some z
 | _::_=>none
section
variable {U:Uni}
theorem f7h {α β:Type} {o:Option α} {f:α -> Option β} {y:β} (h:Option.bind o f=some y): ∃x,o=some x /\ f x=some y:=by
 cases o with
 | none=>cases h
 | some x=>exact ⟨x,rfl,h⟩
theorem e9 {α β γ:Type} {g:α -> Option β} {k:β -> List α -> Option γ} {as:List α} {y:γ} (h:mkS g k as=some y): ∃a r x,as=a::r /\ g a=some x /\ k x r=some y:=by
 cases as with
 | nil=>cases h
 | cons a r=>obtain ⟨x,hx,h⟩:=f7h h;exact ⟨a,r,x,rfl,hx,h⟩
theorem a38 {α γ:Type} {z y:γ} {as:List α} (h:mkE z as=some y):as=[] /\ z=y:=by
 cases as with
 | nil=>cases h;exact ⟨rfl,rfl⟩
 | cons a r=>cases h
theorem a0u {k:IntKind} {a:U.AV} {n:Int} (h:gI k a=some n):AEq a (.int k n):=by
 unfold gI at h
 split at h
 ·split at h
  ·rename_i hk _;cases h;subst hk;exact .inl rfl
  ·cases h
 ·cases h
theorem e52 {a:U.AV} {b:Bool} (h:gB a=some b):AEq a (.bool b):=by
 unfold gB at h
 split at h
 ·cases h;exact .inl rfl
 ·cases h
theorem d6e {a:U.AV} {b:ByteArray} (h:gS a=some b):AEq a (.str b):=by
 unfold gS at h
 split at h
 ·cases h;exact .inl rfl
 ·cases h
theorem b8q {dec:DecidableEq U.C} {c:U.C} {a:U.AV} {x:U.T c} (h:gV dec c a=some x):AEq a (.val c x):=by
 unfold gV at h
 split at h
 ·split at h
  ·rename_i hk _;cases h;subst hk;exact .inl rfl
  ·cases h
 ·cases h
theorem b5n {dec:DecidableEq U.C} {c:U.C} {a:U.AV} {l:List (U.T c)} (h:gL dec c a=some l):AEq a (.list c l):=by
 unfold gL at h
 split at h
 ·cases h;exact .inr ⟨rfl,c,rfl⟩
 ·split at h
  ·rename_i hk _;cases h;subst hk;exact .inl rfl
  ·cases h
 ·cases h
end
structure Ar (n:Nat) (α:Type) where
 l:List α
 h:l.length=n
theorem e4x {α:Type} (l:List α) (i:Int) (y:α):(b0i l i y).length=l.length:=by
 unfold b0i;split<;>simp
def Ar.set {n:Nat} {α:Type} (x:Ar n α) (i:Int) (y:α):Ar n α:=⟨b0i x.l i y,by rw [e4x];exact x.h⟩
def Ar.gt {n:Nat} {α:Type} (z:α) (x:Ar n α) (i:Int):α:=match c8 x.l i with | some y=>y | none=>z
theorem Ar.gt_ok {n:Nat} {α:Type} {z:α} {x:Ar n α} {i:Int} {y:α} (h:c8 x.l i=some y):Ar.gt z x i=y:=by unfold Ar.gt;rw [h]
def arZ {α:Type} (n:Nat) (y:α):Ar n α:=⟨List.replicate n y,by simp⟩
def f6g {α β:Type} (g:α -> Option β):List α -> Option (List β)
 | []=>some []
 | a::r=>match g a with
   | some x=>(match f6g g r with | some l=>some (x::l) | none=>none)
   | none=>none
def mkA {α β:Type} (g:α -> Option β) (n:Nat) (as:List α):Option (Ar n β):=match f6g g as with
 | some l=>(match Nat.decEq l.length n with | .isTrue h=>some ⟨l,h⟩ | .isFalse _=>none)
 | none=>none
section
variable {U:Uni}
theorem e18 {β:Type} {g:U.AV -> Option β} {f:β -> U.AV} (hg: ∀a x,g a=some x -> AEq a (f x)): ∀{as:List U.AV} {l:List β},f6g g as=some l -> m7 (AEq (U:=U)) as (l.map f)
 | [],l,h=>by cases h;trivial
 | a::as,l,h=>by
   simp only [f6g] at h
   split at h
   ·rename_i x hx
    split at h
    ·rename_i l' hl
     cases h
     exact ⟨hg _ _ hx,e18 hg hl⟩
    ·cases h
   ·cases h
theorem e1w {β:Type} {g:U.AV -> Option β} {f:β -> U.AV} (hg: ∀a x,g a=some x -> AEq a (f x)) {n:Nat} {as:List U.AV} {y:Ar n β} (h:mkA g n as=some y):m7 (AEq (U:=U)) as (y.l.map f):=by
 unfold mkA at h
 split at h
 ·rename_i l hl
  split at h
  ·cases h;exact e18 hg hl
  ·cases h
 ·cases h
theorem e88 {n:Nat} {α:Type} (x:Ar n α) {f:α -> U.AV} {o:Option U.C} (h: ∀y,u9 (f y)=o):(x.l.map f).map u9=List.replicate n o:=by
 obtain ⟨l,hl⟩:=x
 subst hl
 rw [List.map_map]
 show l.map (u9∘f)=_
 induction l with
 | nil=>rfl
 | cons a l ih=>simp [List.replicate_succ,h,ih]
theorem d7r {n:Nat} {α:Type} (x:Ar n α) {f:α -> U.AV} {p:U.AV -> Bool} (h: ∀y,p (f y)=true):(x.l.map f).all p=true:=by
 rw [List.all_eq_true]
 intro a ha
 obtain ⟨b,_,rfl⟩:=List.mem_map.1 ha
 exact h b
theorem b0x (hU:UOK U) {P:Program} {Φ:Phi U} (hΦ:OKΦ P Φ) (hm:P.follows .mixedOrders=true) {f:FuncId} {fn:Func} {fe:Fent U} (hf:P.funcs[f]? =some fn) (un:Ress U fe.s.rs×Outs U fe.s.ps -> fe.B) (an:Ann U.C)
  (hb:fn.body=some (fn.body.getD .skip)) (hc:(a2v fn.ntmps (fn.body.getD .skip)&&b58 fn.ntmps fn.results.toList&&(decide (npK fe.s.ps <= fn.ntmps)&&b1c fe.s.ps))=true) (hun: ∀p,fe.wr (un p)=p) (hF: ∀x,d7q P Φ fe.s un fn an x=fe.F x):Spec P f fe:=
 e8i hU hΦ hm un an hf hb hc hun fun x b h=>(hF x).trans h
def f6f (P:Program):List (Nat×Fent U) -> Prop
 | []=>True
 | q::r=>c2k P q.1 q.2 /\ f6f P r
def e5y:List (PK U.C) -> List U.AV -> Bool
 | .cl f _::ps,.clo f' _::as=>Nat.beq f f'&&e5y ps as
 | .cl _ _::_,_=>false
 | .bn f _::ps,.bnd f' _::as=>Nat.beq f f'&&e5y ps as
 | .bn _ _::_,_=>false
 | .km f _::ps,.clo f' _::as=>Nat.beq f f'&&e5y ps as
 | .km _ _::_,_=>false
 | .vl f _ _::ps,.clo f' _::as=>Nat.beq f f'&&e5y ps as
 | .vl f _ _::ps,.vl f' _ _ _::as=>Nat.beq f f'&&e5y ps as
 | .vl _ _ _::_,_=>false
 | _::ps,_::as=>e5y ps as
 | _,_=>true
def lkF (t:Nat) (as:List U.AV):List (Nat×Fent U) -> Option (Fent U)
 | []=>none
 | (k,a)::r=>bif Nat.beq k t&&e5y a.s.ps as then some a else lkF t as r
theorem okl {P:Program}: ∀{L:List (Nat×Fent U)},f6f P L -> OKΦ P fun f as=>lkF f as L
 | [],_,f,as,fe,h=>by cases h
 | (i,a)::r,hL,f,as,fe,h=>by
   have h:(bif Nat.beq i f&&e5y a.s.ps as then some a else lkF f as r)=some fe:=h
   cases hb:Nat.beq i f&&e5y a.s.ps as with
   | true=>
     rw [hb] at h
     simp only [qB] at hb
     obtain rfl:=qC hb.1
     obtain rfl:=qH h
     exact hL.1
   | false=>
     rw [hb] at h
     exact okl hL.2 f as fe h
theorem f4v (hU:UOK U) {P:Program} (hm:P.follows .mixedOrders=true) {f:FuncId} {fn:Func} {fe:Fent U} (L:List (Nat×Fent U)) (hL:f6f P L) (hf:P.funcs[f]? =some fn) (un:Ress U fe.s.rs×Outs U fe.s.ps -> fe.B) (an:Ann U.C)
  (hb:fn.body=some (fn.body.getD .skip)) (hc:(a2v fn.ntmps (fn.body.getD .skip)&&b58 fn.ntmps fn.results.toList&&(decide (npK fe.s.ps <= fn.ntmps)&&b1c fe.s.ps))=true) (hun: ∀p,fe.wr (un p)=p) (hF: ∀x,d7q P (fun f as=>lkF f as L) fe.s un fn an x=fe.F x):Spec P f fe:=
 b0x hU (okl hL) hm hf un an hb hc hun hF
end
end Go.SX
namespace Go.PL
open Go
def f5o (s:ByteArray) (c:Int):Int:=match (List.range s.size).find? fun i=>s[i]! ==c.toNat.toUInt8 with | some i=>(i:Int) | none=> -1
theorem e56 {P:Program} {w:World} (s:ByteArray) (c:Int):(Extern.BytealgIndexByte.indexByte #[.string s,.int .u8 c]).run P w= .ok (.int .i64 (f5o s c)) w:=by
 change Sem.run P (do
  let b <- Extern.Bytes.bytesOf (.string s)
  let c' <- Extern.Bytes.asByte (.int .u8 c)
  match (List.range b.size).find? fun i=>b[i]! ==c' with
  | some i=>pure (goInt i)
  | none=>pure (goInt (-1))) w=_
 simp only [Extern.Bytes.bytesOf,Extern.Bytes.asByte,Sem.run_bind,Sem.run_pure,Result.andThen]
 unfold f5o
 split<;>simp_all [goInt,Sem.run_pure]
end Go.PL
namespace Go.SX
open Go Go.PL
section
variable {P:Program} {U:Uni}
theorem f3v {ps:List (PK U.C)} {c:U.C} {Z G:Nat -> Prop} {w:World} {us:List Value} {o:Outs U ps} {x:U.T c} {u:Value} (hx:a18 (cz Z w) (inj c x) u) (ho:OR (czO Z ps us w) ps o us) (hi:ioB ps us=[]):Post (⟨ps,[.v c]⟩:Sig U) Z G w us ((x,()),o) u w:=
 ⟨⟨Z,[u],us,rfl,fun _ h=>h,fun _ h=> .inl h,Ext.refl _ _,rfl,fun _ _ _ _=>rfl,⟨hx,trivial⟩,ho,(fun v hv=>by
   have hv:v∈([]:List Value)++ioB ps us:=hv
   rw [hi] at hv;cases hv),(fun i j v v' b _ hv=>by
   have hv:(([]:List Value)++ioB ps us)[i]? =some v:=hv
   rw [hi] at hv;cases hv)⟩⟩
theorem e31 {f:FuncId} {fn:Func} (hf:P.funcs[f]? =some fn) (h1:(fn.name== "runtime.NumGoroutine")=false) (h2:fn.body.isNone=true) (h3:Extern.findNext fn=none) (h4:Extern.find fn=some Extern.BytealgIndexByte.indexByte)
  {a b c:U.C} (fa:U.T a -> ByteArray) (fb:U.T b -> Int) (fc:Int -> U.T c) (ha: ∀x,(inj a x:U.AV)= .str (fa x)) (hb: ∀x,(inj b x:U.AV)= .int .u8 (fb x)) (hc: ∀n,(inj c (fc n):U.AV)= .int .i64 n):
  e0l P f (⟨⟨[.v a,.v b],[.v c]⟩,Int,fun x=>some (f5o (fa x.1) (fb x.2.1)),fun n=>((fc n,()),()),none⟩:Fent U):=by
 intro xs r hr Z G w us hl hR
 obtain rfl:=qH hr
 match us,hl with
 | [u1,u2],_=>
   have s0:AVR _ (inj a xs.1) u1:=hR.slot 0
   have s1:AVR _ (inj b xs.2.1) u2:=hR.slot 1
   rw [ha] at s0
   rw [hb] at s1
   have s0:u1= .string (fa xs.1):=s0
   have s1:u2= .int .u8 (fb xs.2.1):=s1
   refine ⟨.int .i64 (f5o (fa xs.1) (fb xs.2.1)),w,?_,f3v (by rw [hc];rfl) trivial rfl⟩
   show (callFunc f #[u1,u2]).run P w=_
   rw [s0,s1,run_callFunc_extern hf h1 h2 h3 h4,e56];rfl
end
end Go.SX
namespace Go.PL
def d9u {α:Type} [Inhabited α] (lt:α -> α -> Bool) (l:List α):Option (List α):=
 if l.length <= 1 then some l else if l.length<4611686018427387904 then some (Go.Sort.pdq lt l.toArray 0 l.length (Lib.bitLen l.length) true true).toList else none
end Go.PL
namespace Go.PL
def c0e (l:List Int):List Int:=l.mergeSort fun x y=>decide (x <= y)
def c88 (l:List Int):Option (List Int):=if l.length <= 1000000 then some (c0e l) else none
def b8x (n:Int):Bool:=decide (-9223372036854775808 <= n)&&decide (n <= 9223372036854775807)
def c83 (l:List (Int×Int)):Option (List Int):=if (l.all fun q=>b8x q.1)=true /\ l.length <= 1000000 then some (c0e (l.map (·.1))) else none
noncomputable def allP {α β:Type} (S:α -> Prop) (f:α -> Option β):Option β:= @dite _ (∃r,∀b,S b -> f b=some r) (Classical.propDecidable _) (fun h=>some (Classical.choose h)) fun _=>none
theorem d81 {α β:Type} {S:α -> Prop} {f:α -> Option β} {r:β} (h:allP S f=some r) {b:α} (hb:S b):f b=some r:=by
 unfold allP at h
 split at h
 ·rename_i hx
  have h1:=Classical.choose_spec hx b hb
  rw [h1,qH h]
 ·cases h
theorem f0s {α β:Type} {S:α -> Prop} {f:α -> Option β} {r:β} (hr: ∀b,S b -> f b=some r) {b:α} (hb:S b):allP S f=some r:=by
 unfold allP
 have hx: ∃r,∀b,S b -> f b=some r:=⟨r,hr⟩
 rw [dif_pos hx]
 have h1:=Classical.choose_spec hx b hb
 rw [hr b hb] at h1
 exact h1.symm
def ixK {α:Type}:List ((Int×Int)×α) -> (Int×Int) -> Nat
 | [],_=>0
 | q::r,k=>if q.1=k then 0 else ixK r k+1
def b7h {α:Type} (L:List ((Int×Int)×α)) (k:Int×Int) (z:α):List ((Int×Int)×α):=if ixK L k<L.length then L else L++[(k,z)]
def e5n {β:Type} (L:List ((Int×Int)×List β)) (k:Int×Int) (x:β):List ((Int×Int)×List β):=
 match (b7h L k [])[ixK L k]? with
 | some q=>(b7h L k []).set (ixK L k) (k,q.2++[x])
 | none=>L
end Go.PL
namespace Go.SX
open Go Go.PL
theorem knS {P:Program} {U:Uni} {f:FuncId} {fe:Fent U} (hk:fe.kc=none) (h:Spec P f fe /\ b13 P f):c2k P f fe:=by unfold c2k;rw [hk];exact .inl h
theorem knX {P:Program} {U:Uni} {f:FuncId} {fe:Fent U} (hk:fe.kc=none) (h:e0l P f fe):c2k P f fe:=by unfold c2k;rw [hk];exact .inr h
structure Kn (P:Program) (U:Uni) where
 f:Nat
 fe:Fent U
 ok:c2k P f fe
def Kn.e {P:Program} {U:Uni} (k:Kn P U):Nat×Fent U:=(k.f,k.fe)
theorem e5r {P:Program} {U:Uni}: ∀ks:List (Kn P U),f6f P (ks.map Kn.e)
 | []=>trivial
 | k::ks=>⟨k.ok,e5r ks⟩
theorem a7n {P:Program} {f:Nat} {fn:Func} (hf:P.funcs[f]? =some fn) (hb:fn.body.isSome=true) (hn:(!fn.name== "runtime.NumGoroutine")=true):b13 P f:=by
 intro args w
 have h1:(fn.name== "runtime.NumGoroutine")=false:=by simpa using hn
 have h2:fn.body.isNone=false:=by cases h:fn.body with
  | none=>rw [h] at hb;cases hb
  | some c=>rfl
 unfold callFunc
 change Sem.run P (match P.funcs[f]? with | none=>_ | some fn=>_) w=_
 rw [hf]
 simp only [h1,h2]
 rfl
def d7l (fn:Func) {U:Uni} (s:Sig U):Bool:=(fn.body.isSome&& !fn.name== "runtime.NumGoroutine")&&(a2v fn.ntmps (fn.body.getD .skip)&&b58 fn.ntmps fn.results.toList&&(decide (npK s.ps <= fn.ntmps)&&b1c s.ps))
theorem t7 {fn:Func} {U:Uni} {s:Sig U} (h:d7l fn s=true):fn.body=some (fn.body.getD .skip) /\ (a2v fn.ntmps (fn.body.getD .skip)&&b58 fn.ntmps fn.results.toList&&(decide (npK s.ps <= fn.ntmps)&&b1c s.ps))=true:=by
 unfold d7l at h
 rw [qB,qB] at h
 refine ⟨?_,h.2⟩
 cases hb:fn.body with
 | none=>rw [hb] at h;exact absurd h.1.1 (by simp)
 | some c=>rfl
theorem c81 {fn:Func} {U:Uni} {s:Sig U} (h:d7l fn s=true):fn.body.isSome=true /\ (!fn.name== "runtime.NumGoroutine")=true:=by
 unfold d7l at h
 rw [qB,qB] at h
 exact h.1
def kn {P:Program} {U:Uni} (hU:UOK U) (hm:P.follows .mixedOrders=true) (f:Nat) (fn:Func) (s:Sig U) {B:Type} (F:Args U s.ps -> Option B) (wr:B -> Ress U s.rs×Outs U s.ps) (un:Ress U s.rs×Outs U s.ps -> B) (an:Ann U.C) (ks:List (Kn P U))
    (hf:P.funcs[f]? =some fn) (hc:d7l fn s=true) (hun: ∀p,wr (un p)=p) (hF: ∀x,d7q P (fun g as=>lkF g as (ks.map Kn.e)) s un fn an x=F x):Kn P U:=
 ⟨f,⟨s,B,F,wr,none⟩,knS rfl ⟨f4v hU hm (fe:=⟨s,B,F,wr,none⟩) (ks.map Kn.e) (e5r ks) hf un an (t7 hc).1 (t7 hc).2 hun hF,a7n hf (c81 hc).1 (c81 hc).2⟩⟩
abbrev w1 {α:Type} (b:α):(α×Unit)×Unit:=((b,()),())
abbrev u1 {α:Type} (p:(α×Unit)×Unit):α:=p.1.1
abbrev w2 {α β:Type} (b:α×β):(α×β×Unit)×Unit:=((b.1,b.2,()),())
abbrev u2 {α β:Type} (p:(α×β×Unit)×Unit):α×β:=(p.1.1,p.1.2.1)
def sk {C:Type}:Nat -> Ann C -> Ann C
 | 0,a=>a
 | n+1,a=> .s .n (sk n a)
end Go.SX
namespace Go.SX
open Go Go.PL Go.RowKit
section
variable {U:Uni} {P:Program} {Φ:Phi U} {n:Nat}
theorem c4j (hU:UOK U) {E:Env} {Z:Nat -> Prop} {π:Nat -> Value} {σ:U.St} {ρ:Nat -> Value} {fn:Func} {tmps:Array Value} {R:Ending -> World -> Prop} (fin: ∀w,Rel E Z π σ ρ w -> ∃v,(results fn tmps).run P w= .ok v w /\ R (.returned v) w):
  ∀(Ds:List Nat) (w:World),Rel E Z π σ ρ w -> Ds.Nodup -> (∀D∈Ds,E.w0.heap.size <= D /\ w.heap[D]? =some (.deferred (some []))) -> LeavesInM Fence.wide 9 P fn tmps R (Ds.map d7k) .returning w
 | [],w,hR,_,_=>fin w hR
 | D::Ds,w,hR,hn,hD=>by
   obtain ⟨h1,h2⟩:=hD D qI
   obtain ⟨hn1,hn2⟩:=List.nodup_cons.1 hn
   refine ⟨by simp,.inl ⟨D,w.putObj D (.deferred none),rfl,run_takeDeferred h2,?_⟩⟩
   refine c4j hU fin Ds _ (hR.pu hU h1 h2 rfl) hn2 fun D' hm=> ?_
   obtain ⟨h3,h4⟩:=hD D' (qJ _ hm)
   have hne:D'≠D:=fun e=>hn1 (by rw [<- e];exact hm)
   exact ⟨h3,(World.putObj_heap_other hne).trans h4⟩
def f1a (P:Program) (Φ:Phi U) (bk:FuncId -> Option (TypeId×U.C×Bool)) (s:Sig U) {B:Type} (un:Ress U s.rs×Outs U s.ps -> B) (fn:Func) (an:Ann U.C) (x:Args U s.ps):Option B:=match fn.body with
 | some c=>e86 P Φ bk (ioI 0 s.ps) c an (u6 0 s.ps x) ⟨fun σ=>unK un (d6z P s fn.results.toList σ),fun _ _=>none,fun σ=>unK un (d6z P s fn.results.toList σ)⟩
 | none=>none
theorem e51 (hU:UOK U) (hΦ:OKΦ P Φ) (hm:P.follows .mixedOrders=true) {bk:FuncId -> Option (TypeId×U.C×Bool)} (hbk:BKS P bk) {f:FuncId} {fn:Func} {c:Code} {fe:Fent U} (un:Ress U fe.s.rs×Outs U fe.s.ps -> fe.B) (an:Ann U.C) (hf:P.funcs[f]? =some fn) (hb:fn.body=some c)
  (hc:(e2n fn.ntmps c&&b58 fn.ntmps fn.results.toList&&(decide (npK fe.s.ps <= fn.ntmps)&&b1c fe.s.ps))=true) (hun: ∀p,fe.wr (un p)=p) (hF: ∀x b,fe.F x=some b -> f1a P Φ bk fe.s un fn an x=some b):Spec P f fe:=by
 intro xs b hr Z G w us hlen hR
 simp only [qB,decide_eq_true_eq] at hc
 have hmi:b6e fe.s.ps 0 fe.s.ps=true:=by
  have h9:=hc.2.2
  unfold b1c at h9
  simp only [qB] at h9
  exact h9.1
 have hd:=hF xs b hr
 unfold f1a at hd
 rw [hb] at hd
 have hret: ∀{σ:U.St},unK un (d6z P fe.s fn.results.toList σ)=some b -> d6z P fe.s fn.results.toList σ=some (fe.wr b):=fun {σ} h=>by
  unfold unK at h
  split at h
  ·rename_i p hp
   cases h
   rw [hp,hun]
  ·cases h
 have hpin: ∀i,(⟨w,G,Z,b50 fe.s.ps,c0g us⟩:Env).pin i↔i∈ioI 0 fe.s.ps:=fun i=>by
  have:=c3s fe.s.ps 0 i
  simp only [Nat.zero_le,true_and,Nat.sub_zero] at this
  exact this.symm
 refine callsIn_wide.1 (callsIn_of_wp_marks (F:=Fence.wide) (n:=9) hf hb trivial ?_ rfl)
 have hlt:(us.take (npK fe.s.ps)).length <= fn.ntmps:=by rw [List.length_take];exact Nat.le_trans (Nat.min_le_left _ _) hc.2.1
 rw [c3k (n:=fn.ntmps) (us.take (npK fe.s.ps)) hlt]
 have leave: ∀{σ':U.St} {Z' π' ρ' ds' w'},Rel ⟨w,G,Z,b50 fe.s.ps,c0g us⟩ Z' π' σ' ρ' w' -> Dn ⟨w,G,Z,b50 fe.s.ps,c0g us⟩ Z' w' ds' -> unK un (d6z P fe.s fn.results.toList σ')=some b ->
   LeavesInM Fence.wide 9 P fn (Frd fn.ntmps ρ' ds').tmps (fun e w''=> ∃u,e= .returned u /\ Post fe.s Z G w us (fe.wr b) u w'') ds' .returning w':=by
  intro σ' Z' π' ρ' ds' w' h1 hD h3
  obtain ⟨Ds,rfl,hn,hDs⟩:=hD
  exact c4j hU (fun w2 h2=>by
   obtain ⟨v,hv,hp⟩:=b6b hU hlen hmi h2 hc.1.2 (hret h3)
   exact ⟨v,hv,v,rfl,hp⟩) Ds w' h1 hn fun D hm=>⟨(hDs D hm).2.1,(hDs D hm).2.2⟩
 have hw:=d7g hU hΦ hm hbk c an _ _ b hc.1.1 hd ⟨w,G,Z,b50 fe.s.ps,c0g us⟩ hpin
  (fun e ρ' ds' w'=>(e= .normal \/ e= .ret) /\ LeavesInM Fence.wide 9 P fn (Frd fn.ntmps ρ' ds').tmps (fun e w''=> ∃u,e= .returned u /\ Post fe.s Z G w us (fe.wr b) u w'') ds' .returning w')
  ⟨fun σ' Z' π' ρ' ds' w' h1 h2 h3=>⟨.inl rfl,leave h1 h2 h3⟩,fun i σ' Z' π' ρ' ds' w' h1 h2 h3=>(by cases h3),fun σ' Z' π' ρ' ds' w' h1 h2 h3=>⟨.inr rfl,leave h1 h2 h3⟩⟩ Z _ _ [] w hR ⟨[],rfl,List.nodup_nil,fun D h=>by cases h⟩
 refine wpIn_mono hw ?_
 rintro e a w' ⟨ρ',ds',rfl,he,hl⟩
 rcases he with rfl | rfl<;>exact hl
end
def e1r (fn:Func) {U:Uni} (s:Sig U):Bool:=(fn.body.isSome&& !fn.name== "runtime.NumGoroutine")&&(e2n fn.ntmps (fn.body.getD .skip)&&b58 fn.ntmps fn.results.toList&&(decide (npK s.ps <= fn.ntmps)&&b1c s.ps))
theorem c4t {fn:Func} {U:Uni} {s:Sig U} (h:e1r fn s=true):fn.body=some (fn.body.getD .skip) /\ (e2n fn.ntmps (fn.body.getD .skip)&&b58 fn.ntmps fn.results.toList&&(decide (npK s.ps <= fn.ntmps)&&b1c s.ps))=true:=by
 unfold e1r at h
 rw [qB,qB] at h
 refine ⟨?_,h.2⟩
 cases hb:fn.body with
 | none=>rw [hb] at h;exact absurd h.1.1 (by simp)
 | some c=>rfl
theorem c5l {fn:Func} {U:Uni} {s:Sig U} (h:e1r fn s=true):fn.body.isSome=true /\ (!fn.name== "runtime.NumGoroutine")=true:=by
 unfold e1r at h
 rw [qB,qB] at h
 exact h.1
def lkB {U:Uni}:List (Nat×TypeId×U.C×Bool) -> FuncId -> Option (TypeId×U.C×Bool)
 | [],_=>none
 | (i,q)::l,g=>bif Nat.beq i g then some q else lkB l g
def f5s (P:Program) {U:Uni}:List (Nat×TypeId×U.C×Bool) -> Prop
 | []=>True
 | (i,tS,c,up)::l=>(∃tE,BackOK P up i tS tE (U.n c) /\ (∀l:List (U.T c),b0e P tS (.list c l:U.AV)=true) /\ ∀x:U.T c,b0e P tE (inj c x)=true) /\ f5s P l
theorem e68 {P:Program} {U:Uni}: ∀{l:List (Nat×TypeId×U.C×Bool)},f5s P l -> BKS P (lkB l)
 | [],_,g,tS,c,up,h=>by cases h
 | (i,t,c',u')::l,hl,g,tS,c,up,h=>by
   have h:(bif Nat.beq i g then some (t,c',u') else lkB l g)=some (tS,c,up):=h
   cases hb:Nat.beq i g with
   | true=>
     rw [hb] at h
     obtain rfl:=qC hb
     cases h
     exact hl.1
   | false=>rw [hb] at h;exact e68 hl.2 g tS c up h
def knR {P:Program} {U:Uni} (hU:UOK U) (hm:P.follows .mixedOrders=true) (l:List (Nat×TypeId×U.C×Bool)) (hl:f5s P l) (f:Nat) (fn:Func) (s:Sig U) {B:Type} (F:Args U s.ps -> Option B) (wr:B -> Ress U s.rs×Outs U s.ps) (un:Ress U s.rs×Outs U s.ps -> B) (an:Ann U.C) (ks:List (Kn P U))
    (hf:P.funcs[f]? =some fn) (hc:e1r fn s=true) (hun: ∀p,wr (un p)=p) (hF: ∀x,f1a P (fun g as=>lkF g as (ks.map Kn.e)) (lkB l) s un fn an x=F x):Kn P U:=
 ⟨f,⟨s,B,F,wr,none⟩,knS rfl ⟨e51 hU (okl (e5r ks)) hm (e68 hl) (fe:=⟨s,B,F,wr,none⟩) un an hf (c4t hc).1 (c4t hc).2 hun fun x b h=>(hF x).trans h,a7n hf (c5l hc).1 (c5l hc).2⟩⟩
end Go.SX
namespace Go.SX
open Go Go.PL Go.RowKit
theorem f0t {P:Program} {n m:Nat} {r:Option Nat} {ops:List Oper} (hT:Plan.okTmps ops n=true) (hS:Plan.okSel ops=true) {Q:Exit -> Act -> World -> Prop} {ρ:Nat -> Value} {ds:List Deferred} {w w':World} {i:Nat} {rest:List Nat} {o:Oper} {v:Value}
  (ho:ops[i]? =some o) (hg:o.guard=none) (hy:(execOp (ev ρ) o).run P w= .ok (.value v) w') (hk:wpOpsIn (FR r) m P ops.toArray Q rest (Frd n (a9j ρ o.dst v) ds) w'):wpOpsIn (FR r) m P ops.toArray Q (i::rest) (Frd n ρ ds) w:=by
 rw [wpOpsIn_cons]
 unfold wpOpIn
 simp only [List.getElem?_toArray,ho]
 rw [if_pos (by simp [Region.wanted,hg])]
 refine y9.wp (K:=fun u w2=>u=v /\ w2=w') ?_ ?_
 ·unfold y9
  rw [b5f hT hS ho ρ,hy]
  exact ⟨rfl,rfl⟩
 ·rintro u w2 ⟨rfl,rfl⟩
  rw [c04]
  exact hk
theorem e3k {P:Program} {t:TypeId} {u:Value} {w:World} (h:u.cells.toList=[u]):(Instr.box t u).run P w= .ok (.pointer (some ⟨w.heap.size,0,none⟩)) (w.alloc (.cells #[u] t)):=by
 have e:u.cells= #[u]:=Array.ext' (by simpa using h)
 simp [Instr.box,newVar,newRow,e]
def bq0 (tS tF:TypeId) (p1:String):List Oper:=[{dst:=some 1,op:= .box tS (.tmp 0),type:=0,pos:=p1,after:= #[],guard:=none},{dst:=some 2,op:= .assign (.const .nilFunc),type:=tF,pos:=p1,after:= #[],guard:=none}]
def bq1 (tF tG:TypeId) (g:FuncId) (p2:String):List Oper:=[{dst:=some 3,op:= .makeFunc (.func g) #[] #[.tmp 1],type:=tG,pos:=p2,after:= #[],guard:=none},{dst:=some 2,op:= .assign (.tmp 3),type:=tF,pos:=p2,after:= #[{on:=0,ground:= .data},{on:=0,ground:= .phase}],guard:=none}]
def f1s (tS tF tG:TypeId) (g:FuncId) (p1 p2:String):Code:= .seq (.region 0 (bq0 tS tF p1).toArray false) (.seq (.region 1 (bq1 tF tG g p2).toArray false) .ret)
theorem e1p {P:Program} {f g:FuncId} {fn:Func} {tS tF tG:TypeId} {p1 p2:String} (hc:b13 P f) (hf:P.funcs[f]? =some fn) (hb:fn.body=some (f1s tS tF tG g p1 p2)) (hn:fn.ntmps=4) (hres:fn.results= #[.tmp 2]):c3a P f g tS:=by
 refine ⟨hc,fun u hu w=>callsIn_wide.1 (callsIn_of_wp (F:=Fence.wide) (n:=9) hf hb trivial ?_ rfl)⟩
 have ha:=c3k (n:=4) [u] (by simp)
 rw [show ({tmps:= #[u]++Array.replicate (fn.ntmps-(#[u]:Array Value).size) undef,defers:=[]}:Act)=Frd 4 (fun t=>[u].getD t undef) [] from by rw [hn];exact ha]
 refine wpIn_seq (wpIn_region (F:=FR none) ?_)
 show wpOpsIn (FR none) 9 P (bq0 tS tF p1).toArray _ [0,1] _ _
 refine f0t rfl rfl rfl rfl (f6o (v:=u) rfl (e3k hu)) ?_
 refine a0z rfl rfl rfl rfl (b3q (v:= .nilFunc) rfl) ?_
 refine wpIn_seq (wpIn_region (F:=FR none) ?_)
 show wpOpsIn (FR none) 9 P (bq1 tF tG g p2).toArray _ [0,1] _ _
 refine a0z rfl rfl rfl rfl (v:= .func (.func g) #[] #[.pointer (some ⟨w.heap.size,0,none⟩)]) (by simp [YV,execOp,Instr.makeFunc,ev,a9j,upd]) ?_
 refine a0z rfl rfl rfl rfl (b3q rfl) ?_
 refine wpIn_ret ⟨rfl,_,by simp [results,hres,Frd,a9j,upd];rfl,rfl,rfl⟩
end Go.SX
namespace Go.SX
open Go Go.PL Go.RowKit
def cl0 (t:TypeId):List Oper:=[{dst:=some 2,op:= .assign (.const (.slice none 0 0)),type:=t,pos:= "slices.go:355",after:= #[],guard:=none}]
def cl1 (t b:TypeId):List Oper:=[{dst:=some 3,op:= .move (.tmp 0),type:=t,pos:= "slices.go:357",after:= #[],guard:=none},{dst:=some 4,op:= .binOp .eql t (.tmp 3) (.const (.slice none 0 0)) t,type:=b,pos:= "slices.go:357",after:= #[{on:=0,ground:= .data}],guard:=none}]
def cl2 (t:TypeId):List Oper:=[{dst:=some 2,op:= .assign (.const (.slice none 0 0)),type:=t,pos:= "slices.go:358",after:= #[],guard:=none}]
def cl3 (t:TypeId):List Oper:=[{dst:=some 5,op:= .buildSlice t 0 #[],type:=t,pos:= "slices.go:362",after:= #[],guard:=none},{dst:=some 6,op:= .move (.tmp 0),type:=t,pos:= "slices.go:362",after:= #[],guard:=none},
 {dst:=some 7,op:= .call {callee:= .builtin .append,args:= #[.tmp 5,.tmp 6],argTypes:= #[t,t]},type:=t,pos:= "slices.go:362",after:= #[{on:=0,ground:= .data},{on:=1,ground:= .data}],guard:=none},
 {dst:=some 2,op:= .assign (.tmp 7),type:=t,pos:= "slices.go:362",after:= #[{on:=2,ground:= .data},{on:=2,ground:= .chain},{on:=0,ground:= .phase},{on:=1,ground:= .phase},{on:=2,ground:= .phase}],guard:=none}]
def d50 (t:TypeId):Code:= .seq (.region 3 (cl3 t).toArray false) .ret
def f2z (t b:TypeId):Code:= .seq (.region 0 (cl0 t).toArray false) (.seq (.seq (.region 1 (cl1 t b).toArray false) (.cond (.tmp 4) (.seq (.region 2 (cl2 t).toArray false) .ret) .skip)) (d50 t))
theorem e75 {P:Program} {η:Operand -> Value} {w:World} {d:Option Tmp} {ty t t' e:TypeId} {x y:Operand} {ps:String} {af:Array Edge} {g:Option (Nat×Bool)} {a:Option Addr} {n c:Nat} {q:Bool} (ht:P.underlying t=some (.slice e)) (hx:η x= .slice a n c) (hy:η y= .slice none 0 0) (h:a.isNone=q):
  YV P η w ⟨d,.binOp .eql t x y t',ty,ps,af,g⟩ (.bool q):=by
 subst h;simp [YV,execOp,hx,hy,eqGuard,binOp,run_equal_slice_nil w t e a n c ht]
section
variable {U:Uni} {P:Program}
@[reducible] def clS (U:Uni) (e:TypeId) (c:U.C):Sig U:=⟨[.ls c],[.ow e c]⟩
def f7b (c:U.C) (l:List (U.T c)):U.St:=(((u6 0 [PK.ls c] ((l,()):Args U [PK.ls c])).app (some 2) .nils []).app (some 3) .unk []).app (some 4) .unk []
def clK (P:Program) (e:TypeId) (c:U.C) (σ:U.St):Option (List (U.T c)):=unK (s:=clS U e c) (fun p=>p.1.1) (d6z P (clS U e c) [.tmp 2] σ)
theorem d6p (hU:UOK U) (hm:P.follows .mixedOrders=true) {f:FuncId} {fn:Func} {t e b:TypeId} {c:U.C} {N:Nat} (hf:P.funcs[f]? =some fn) (hb:fn.body=some (f2z t b)) (hn:fn.ntmps=8) (hres:fn.results= #[.tmp 2]) (ht:P.underlying t=some (.slice e))
  (hc:(a2v 8 (d50 t)&&b58 8 [.tmp 2])=true) (hnil:d6z P (clS U e c) [.tmp 2] ((f7b c []).app (some 2) .nils [])=some (w1 []))
  (hd: ∀l:List (U.T c),den P (fun _ _=>none) [] (d50 t) .n (f7b c l) ⟨fun σ=>clK P e c σ,fun _ _=>none,fun σ=>clK P e c σ⟩=(a4t N [] l).bind fun r=>some r):
  Spec P f (⟨clS U e c,List (U.T c),fun x=>a4t N [] x.1,w1,none⟩:Fent U):=by
 intro xs r hr Z G w us hlen hR
 rw [qB] at hc
 match us,hlen with
 | [u],hlen=>
   have s0:j5 (Rp c) _ w u xs.1:=hR.slot 0
   have hr:a4t N [] xs.1=some r:=hr
   refine callsIn_wide.1 (callsIn_of_wp (F:=Fence.wide) (n:=9) hf hb trivial ?_ rfl)
   have ha:=c3k (n:=8) [u] (by simp)
   rw [show ({tmps:=(([u].take (npK (clS U e c).ps)).toArray)++Array.replicate (fn.ntmps-(([u].take (npK (clS U e c).ps)).toArray).size) undef,defers:=[]}:Act)=Frd 8 (fun t=>[u].getD t undef) [] from by rw [hn];exact ha]
   have hE0:Ext noG w w:=Ext.refl _ _
   refine wpIn_seq (wpIn_region (F:=FR none) ?_)
   show wpOpsIn (FR none) 9 P (cl0 t).toArray _ [0] _ _
   refine a0z rfl rfl rfl rfl (b3q (v:= .slice none 0 0) rfl) ?_
   refine wpIn_seq (wpIn_seq (wpIn_region (F:=FR none) ?_))
   show wpOpsIn (FR none) 9 P (cl1 t b).toArray _ [0,1] _ _
   refine a0z rfl rfl rfl rfl (b4w (v:=u) rfl) ?_
   have hR4: ∀q:Bool,Rel _ Z _ (f7b c xs.1) (a9j (a9j (a9j (fun t=>[u].getD t undef) (some 2) (.slice none 0 0)) (some 3) u) (some 4) (.bool q)) w:=fun q=>
    ((hR.val hE0 (d:=some 2) (a:= .nils) (v:= .slice none 0 0) rfl).val hE0 (d:=some 3) (a:= .unk) (v:=u) trivial).val hE0 (d:=some 4) (a:= .unk) (v:= .bool q) trivial
   have hmi:b6e (clS U e c).ps 0 (clS U e c).ps=true:=rfl
   rcases s0 with ⟨rfl,hl⟩ | ⟨a,cap,rfl,_⟩
   ·refine a0z rfl rfl rfl rfl (e75 ht rfl rfl (q:=true) rfl) ?_
    refine wpIn_cond_true (by rw [b0s rfl];rfl) ?_
    refine wpIn_seq (wpIn_region (F:=FR none) ?_)
    show wpOpsIn (FR none) 9 P (cl2 t).toArray _ [0] _ _
    refine a0z rfl rfl rfl rfl (b3q (v:= .slice none 0 0) rfl) ?_
    have h5:=(hR4 true).val hE0 (d:=some 2) (a:= .nils) (v:= .slice none 0 0) rfl
    rw [hl] at h5 hr
    obtain rfl:r=[]:=by
     unfold a4t at hr
     split at hr<;>cases hr;rfl
    obtain ⟨v,hv,hp⟩:=b6b (n:=8) hU hlen hmi h5 (fn:=fn) (by rw [hres];exact hc.2) (by rw [hres];exact hnil)
    exact wpIn_ret ⟨rfl,v,hv,v,rfl,hp⟩
   ·refine a0z rfl rfl rfl rfl (e75 ht rfl rfl (q:=false) rfl) ?_
    refine wpIn_cond_false (by rw [b0s rfl];rfl) (wpIn_skip ?_)
    have hret: ∀{σ:U.St},clK P e c σ=some r -> d6z P (clS U e c) fn.results.toList σ=some (w1 r):=fun {σ} h=>by
     unfold clK unK at h
     rw [hres]
     split at h
     ·rename_i p hp
      cases h
      rw [hp]
     ·cases h
    have hw:=a5d (n:=8) hU (fun _ _ _ h=>by cases h) hm (d50 t) .n _ _ r hc.1 ((hd xs.1).trans (by rw [hr];rfl)) ⟨w,G,Z,b50 (clS U e c).ps,c0g [_]⟩ (fun i=>by
      have:=c3s (clS U e c).ps 0 i
      simp only [Nat.zero_le,true_and,Nat.sub_zero] at this
      exact this.symm) (fun _=>False) (fun _=>undef) (fun e' ρ' w'=>(e'= .normal \/ e'= .ret) /\ ∃v,(results fn (Fr 8 ρ').tmps).run P w'= .ok v w' /\ Post (clS U e c) Z G w [_] (w1 r) v w') (fun _ h=>h.elim)
      ⟨fun σ Z' π ρ w' _ hR' h'=>⟨.inl rfl,b6b hU hlen hmi hR' (by rw [hres];exact hc.2) (hret h')⟩,(fun i σ Z' π ρ w' _ hR' h'=>by cases h'),fun σ Z' π ρ w' _ hR' h'=>⟨.inr rfl,b6b hU hlen hmi hR' (by rw [hres];exact hc.2) (hret h')⟩⟩ Z _ _ w (fun _ h=>h.elim) (hR4 false)
    refine wpIn_mono (hw none [] (.inl rfl)) ?_
    rintro e' a' w' ⟨ρ',rfl,he,v,hv,hp⟩
    rcases he with rfl | rfl<;>exact ⟨rfl,v,hv,v,rfl,hp⟩
end
end Go.SX
namespace Go.SX
open Go Go.PL
section
variable {P:Program} {U:Uni}
theorem b6w {c:U.C} {cells:U.T c -> List Value} (hc: ∀G w x,(Rp c).rep G w (cells x) x) {B:Nat} {E:TypeId} {w:World} {v:Value} {l:List (U.T c)} (hO:PL.Own B E (U.n c) cells w v l) (X:Cx) (hw:X.w=w):MR X (.sl E c l) v:=by
 subst hw
 refine ⟨l.map fun x=>(c45 (hc X.G X.w x)),?_,?_⟩
 ·rcases hO with ⟨hv,hl⟩ | ⟨g,o,cap,cur,hv,hg,hh,h1,h2,h3,h4⟩
  ·subst hl;exact .inl ⟨hv,rfl⟩
  ·refine .inr ⟨g,o,cap,cur,by simpa using hv,Nat.zero_le _,hh,by simpa using h1,h2,h3,?_⟩
   rw [List.length_map,h4,List.flatMap_map]
   rfl
 ·clear hO
  induction l with
  | nil=>trivial
  | cons x l ih=>exact ⟨hc X.G X.w x,ih⟩
end
end Go.SX
namespace Go.SX
open Go Go.PL
section
variable {U:Uni} {P:Program}
def slQ (ts e:TypeId) (c:U.C) (g:FuncId) (F:List (U.T c) -> Option (List (U.T c))) (fr:Nat) (as:List U.AV):U.Q:=match as with
 | [.ifc t (.ref j),.clo g' [.ref i]]=> .rdM i fun m=>match m with
   | .box t' (.st _ [.ref j'])=>(match (Nat.beq t ts&&Nat.beq t' ts)&&(Nat.beq g g'&&Nat.beq j j') with
     | true=> .rdM j fun m=>match m with
       | .sl e' _ l=>(match Nat.beq e e',b44 c l with | true,some l=> .opt (F l) fun r=> .done (.tup []) [(j,.sl e c r)] | _,_=> .fail)
       | _=> .fail
     | false=> .fail)
   | _=> .fail
 | _=> .fail
theorem b4m {c:U.C} {e:TypeId} {cells:U.T c -> List Value} {X:Cx} (hc1: ∀(G:Nat -> Prop) (w:World) (cs:List Value) (x:U.T c),(Rp c).rep G w cs x -> cs=cells x) {l:List (U.T c)} {v:Value} (h:MR X (.sl e c l) v):PL.Own 0 e (U.n c) cells X.w v l:=by
 obtain ⟨css,hO,hr⟩:=h
 have hl:=m7.length hr
 have hf:css.flatMap Subtype.val=l.flatMap cells:=by
  clear hO hl
  induction css generalizing l with
  | nil=>cases l with
    | nil=>rfl
    | cons _ _=>exact hr.elim
  | cons s css ih=>cases l with
    | nil=>exact hr.elim
    | cons x l=>rw [List.flatMap_cons,List.flatMap_cons,ih hr.2,hc1 _ _ _ _ hr.1]
 rcases hO with ⟨h1,h2⟩ | ⟨g,o,cap,cur,h1,h2,h3,h4,h5,h6,h7⟩
 ·subst h2
  exact .inl ⟨h1,List.length_eq_zero_iff.1 hl.symm⟩
 ·rw [hl] at h1 h4 h7
  exact .inr ⟨g,o,cap,cur,h1,h2,h3,h4,h5,h6,h7.trans hf⟩
theorem e91 {c:U.C} {ts e:TypeId} {cells:U.T c -> List Value} {f g:FuncId} {F:List (U.T c) -> Option (List (U.T c))} (hcall:b13 P f)
  (hc1: ∀(G:Nat -> Prop) (w:World) (cs:List Value) (x:U.T c),(Rp c).rep G w cs x -> cs=cells x) (hc2: ∀(G:Nat -> Prop) (w:World) (x:U.T c),(Rp c).rep G w (cells x) x)
  (h: ∀(l r:List (U.T c)) (w:World) (v:Value) (bc:Nat),PL.Own 0 e (U.n c) cells w v l -> Mb w bc ts [v] -> v.ownBlock≠some bc -> F l=some r ->
   Calls P f #[.iface ts v,.func (.func g) #[] #[.pointer (some ⟨bc,0,none⟩)]] w fun q w'=>q= .returned (.tuple #[]) /\ Ext (fun b=>v.ownBlock=some b) w w' /\ PL.Own 0 e (U.n c) cells w' v r):c9z P f (slQ ts e c g F):=by
 refine ⟨hcall,fun E Z π σ ρ w fr as us m0 m v ws hR has hev=> ?_⟩
 unfold slQ at hev
 split at hev
 case h_2=>exact hev.elim
 rename_i t j g' i
 replace hev:(match σ.mem i with
  | .box t' (.st _ [.ref j'])=>(match (Nat.beq t ts&&Nat.beq t' ts)&&(Nat.beq g g'&&Nat.beq j j') with
    | true=>Q.rdM j fun (m:U.MC)=>(match m with
      | .sl e' _ l=>(match Nat.beq e e',b44 c l with | true,some l=>Q.opt (F l) fun r=>(.done (.tup []) [(j,.sl e c r)]:U.Q) | _,_=>(.fail:U.Q))
      | _=>(.fail:U.Q))
    | false=> .fail)
  | _=>(.fail:U.Q)).Ev σ _ m v ws:=hev
 have hmi:=hR.mem i
 split at hev
 case h_2=>exact hev.elim
 rename_i t' cl j' hm
 rw [hm] at hmi
 split at hev
 case h_2=>exact hev.elim
 rename_i hb
 simp only [qB] at hb
 have e1:=qC hb.1.1
 have e2:=qC hb.1.2
 have e3:=qC hb.2.1
 have e4:=qC hb.2.2
 subst e1 e2 e3 e4
 obtain ⟨bc,u,hpi,hM,hu⟩:=c7o hmi
 have hu:u=π j:=hu.2.1
 subst hu
 replace hev:(match σ.mem j with
  | .sl e' _ l=>(match Nat.beq e e',b44 c l with | true,some l=>Q.opt (F l) fun r=> .done (.tup []) [(j,.sl e c r)] | _,_=> .fail)
  | _=>(.fail:U.Q)).Ev σ _ m v ws:=hev
 have hmj:=hR.mem j
 split at hev
 case h_2=>exact hev.elim
 rename_i e' c' l' hmm
 rw [hmm] at hmj
 split at hev
 case h_2=>exact hev.elim
 rename_i l hbe hl
 obtain ⟨hce,hle⟩:=a2b (G:=noG) (w:=default) hl
 subst hce
 subst hle
 have he:=qC hbe
 subst he
 obtain ⟨r,hF,_,rfl,rfl⟩:=hev
 have hO:=b4m hc1 hmj
 obtain ⟨ad,cap,hsh,_⟩:=hO.shape
 have hMv:Mb w bc t' [π j]:=by
  have hM:Mb w bc t' (π j).cells.toList:=hM
  rw [hsh] at hM⊢
  simpa [Value.cells] using hM
 have hne:(π j).ownBlock≠some bc:=fun hh=>by
  have h1:MB (σ.mem j) (π j) bc:=by rw [hmm];exact (a6t hsh).1 hh
  have h2:MB (σ.mem i) (π i) bc:=by rw [hm,hpi];rfl
  have hij:i≠j:=fun e=>by subst e;rw [hm] at hmm;cases hmm
  exact hR.dist i j bc hij h2 h1
 match us,has with
 | [],has=>exact has.elim
 | [_],has=>exact has.2.elim
 | _::_::_::_,has=>exact has.2.2.elim
 | [u1,u2],has=>
   obtain ⟨q1,hq1,ha1⟩:=has.1
   obtain ⟨vs,hq2,hvs⟩:=has.2.1
   match vs,hvs with
   | [],hvs=>exact hvs.elim
   | _::_::_,hvs=>exact hvs.2.elim
   | [p],hvs=>
     have hq:q1=π j:=ha1.2.1
     have hp:p=π i:=hvs.1.2.1
     subst hq1 hq2 hq hp
     rw [show ([.iface t' (π j),.func (.func g) #[] [π i].toArray]:List Value).toArray= #[.iface t' (π j),.func (.func g) #[] #[.pointer (some ⟨bc,0,none⟩)]] by rw [hpi]]
     refine (h _ _ _ _ bc hO hMv hne hF).mono fun q w' ⟨hq,hE,hO'⟩=>⟨_,hq,fun d=>⟨Z,π,?_⟩⟩
     refine hR.set (fun hh=>by rw [hmm] at hh;cases hh) (fun hh=>by cases hh) (hE.mono fun b hb=> ?_) (fun X' hle hw=> ?_) (fun b hb=> ?_) fun X' _=>⟨[],rfl,trivial⟩
     ·rw [hmm];exact (a6t hsh).1 hb
     ·exact b6w hc2 hO' X' hw
     ·rw [hmm];exact hb
end
end Go.SX
namespace Go.SX
open Go Go.PL
section
variable {U:Uni} {P:Program}
def skQ (gk:FuncId) (tk:TypeId) (e:TypeId) (c:U.C) (f:Int -> U.T c) (fr:Nat) (as2:List U.AV):U.Q:=match as2 with
 | [.clo q [.ref i]]=> .rdM i fun m=>match m with
   | .box t' (.ref j)=>(match Nat.beq q gk&&Nat.beq t' tk with
     | true=> .rdM j fun m=>match m with
       | .mp l=> .opt (c83 l) fun r=> .rdM fr fun | .never=> .done (.ref fr) [(fr,.sl e c (r.map f))] | _=> .fail
       | _=> .fail
     | false=> .fail)
   | _=> .fail
 | _=> .fail
abbrev cellsZ:Int -> List Value:=fun x=>[.int .i64 x]
theorem e90 {f gk:FuncId} {tk e:TypeId} {c:U.C} {fi:Int -> U.T c} (hcall:b13 P f) (hn:U.n c=1) (hfi: ∀x,U.flds c (fi x)=[.int .i64 x])
  (hK: ∀(i mb:Nat) (l:List (Int×Int)) (r:List Int) (w:World),Mb w i tk [.map (some mb)] -> (l.map (·.1)).Nodup -> w.heap[mb]? =some (b48 l) -> c83 l=some r -> Calls P f #[.func (.func gk) #[] #[.pointer (some ⟨i,0,none⟩)]] w fun q w'=> ∃v,q= .returned v /\ Ext noG w w' /\ PL.Own w.heap.size e 1 cellsZ w' v r):c9z P f (skQ gk tk e c fi):=by
 refine ⟨hcall,fun E Z π σ ρ w fr as2 us m0 m v ws hR has hev=> ?_⟩
 have hrep: ∀(G:Nat -> Prop) (w:World) (x:Int),(Rp c).rep G w (cellsZ x) (fi x):=fun G w x=>a73.2 ⟨hn.symm,[[.int .i64 x]],rfl,by rw [hfi];exact ⟨rfl,trivial⟩⟩
 have fin: ∀{r:List Int} {w':World} {u:Value},σ.mem fr= .never -> Ext noG w w' -> PL.Own w.heap.size e 1 cellsZ w' u r -> ∀d:Option Tmp,∃Z' π',Rel E Z' π' (σ.app d (.ref fr) [(fr,.sl e c (r.map fi))]) (a9j ρ d u) w':=by
  intro r w' u hnv hE hO d
  obtain ⟨ad,cap,hsh,-⟩:=hO.shape
  refine ⟨Z,b52 π fr u,hR.new (dead:=[]) (fr:=fr) (v':=u) (mc:= .sl e c (r.map fi)) hnv (fun hh=>by cases hh) (hE.mono fun _ hh=>hh.elim) (fun X' hle hw _=>⟨r.map fun x=>⟨cellsZ x,hn.symm,fun u hu=>by simp at hu;subst hu;rfl⟩,?_,?_⟩) (fun b hb=> ?_) (by rw [hsh];rfl)⟩
  ·rw [hw]
   rcases hO with ⟨h1,h2⟩ | ⟨g,o,cap,cur,h1,h2,h3,h4,h5,h6,h7⟩
   ·subst h2;exact .inl ⟨h1,rfl⟩
   ·exact .inr ⟨g,o,cap,cur,by simpa using h1,Nat.zero_le _,h3,by simpa using h4,h5,by rw [hn];exact h6,by rw [List.length_map,List.flatMap_map,show r.length*U.n c=r.length*1 from by rw [hn]];exact h7⟩
  ·clear hO hsh
   induction r with
   | nil=>trivial
   | cons x r ih=>exact ⟨hrep _ _ x,ih⟩
  ·have:=hO.lt ((a6t hsh).2 hb)
   exact ⟨this.2,.inl this.1⟩
 unfold skQ at hev
 split at hev
 case h_2=>exact hev.elim
 rename_i q i
 match us,has with
 | [],has=>exact has.elim
 | _::_::_,has=>exact has.2.elim
 | [u],has=>
 obtain ⟨vs,hu,hvs⟩:=has.1
 match vs,hvs with
 | [],hvs=>exact hvs.elim
 | _::_::_,hvs=>exact hvs.2.elim
 | [p],hvs=>
 have hpi:p=π i:=hvs.1.2.1
 replace hev:(match σ.mem i with
  | .box t' (.ref j)=>(match Nat.beq q gk&&Nat.beq t' tk with
    | true=>Q.rdM j fun m=>(match m with
      | .mp l=> .opt (c83 l) fun r=> .rdM fr fun | .never=> .done (.ref fr) [(fr,.sl e c (r.map fi))] | _=> .fail
      | _=> .fail)
    | false=> .fail)
  | _=>(.fail:U.Q)).Ev σ _ m v ws:=hev
 have hm:=hR.mem i
 have last: ∀{o:Option (List Int)} {m1:Nat},(Q.opt o fun r=>Q.rdM fr fun (m:U.MC)=>(match m with | .never=>Q.done (.ref fr) [(fr,.sl e c (r.map fi))] | _=> .fail)).Ev σ m1 m v ws -> ∃r,o=some r /\ σ.mem fr= .never /\ v= .ref fr /\ ws=[(fr,.sl e c (r.map fi))]:=by
  intro o m1 hh
  obtain ⟨r,hr,hh⟩:=hh
  have hh:(match σ.mem fr with | .never=>Q.done (.ref fr) [(fr,.sl e c (r.map fi))] | _=>(.fail:U.Q)).Ev σ _ m v ws:=hh
  split at hh
  ·rename_i hn;exact ⟨r,hr,hn,hh.2.1,hh.2.2⟩
  ·exact hh.elim
 split at hev
 ·rename_i t' j hmi
  rw [hmi] at hm
  split at hev
  case h_2=>exact hev.elim
  rename_i hg
  simp only [qB] at hg
  have g1:=qC hg.1
  have g2:=qC hg.2
  subst g1 g2
  replace hev:(match σ.mem j with
    | .mp l=>Q.opt (c83 l) fun r=> .rdM fr fun | .never=> .done (.ref fr) [(fr,.sl e c (r.map fi))] | _=> .fail
    | _=>(.fail:U.Q)).Ev σ _ m v ws:=hev
  have hj:=hR.mem j
  split at hev
  case h_2=>exact hev.elim
  rename_i l hmj
  rw [hmj] at hj
  obtain ⟨r,hr,hnv,rfl,rfl⟩:=last hev
  obtain ⟨b,u1,hv,hM,ha⟩:=hm
  obtain ⟨mb,hmv,hnd,hob⟩:=hj
  have hM:Mb w b t' [.map (some mb)]:=by
   have h1:u1= .map (some mb):=ha.2.1.trans hmv
   rw [h1] at hM;exact hM
  rw [hu,show [p].toArray= #[.pointer (some ⟨b,0,none⟩)] by rw [hpi,hv]]
  exact (hK b mb l r w hM hnd hob hr).mono fun q w' ⟨v,h1,h2,h3⟩=>⟨v,h1,fin hnv h2 h3⟩
 ·exact hev.elim
def soQ (e:TypeId) (c:U.C) (F:List (U.T c) -> Option (List (U.T c))) (fr:Nat) (as2:List U.AV):U.Q:=match as2 with
 | [.ref id]=> .rdM id fun m=>match m with
   | .sl e' _ l=>(match Nat.beq e e',b44 c l with | true,some l=> .opt (F l) fun r=> .done (.tup []) [(id,.sl e c r)] | _,_=> .fail)
   | _=> .fail
 | _=> .fail
theorem e8y {c:U.C} {e:TypeId} {cells:U.T c -> List Value} {f:FuncId} {F:List (U.T c) -> Option (List (U.T c))} (hcall:b13 P f)
  (hc1: ∀(G:Nat -> Prop) (w:World) (cs:List Value) (x:U.T c),(Rp c).rep G w cs x -> cs=cells x) (hc2: ∀(G:Nat -> Prop) (w:World) (x:U.T c),(Rp c).rep G w (cells x) x)
  (h: ∀(l r:List (U.T c)) (w:World) (v:Value),PL.Own 0 e (U.n c) cells w v l -> F l=some r -> Calls P f #[v] w fun q w'=>q= .returned (.tuple #[]) /\ Ext (fun b=>v.ownBlock=some b) w w' /\ PL.Own 0 e (U.n c) cells w' v r):c9z P f (soQ e c F):=by
 refine ⟨hcall,fun E Z π σ ρ w fr as2 us m0 m v ws hR has hev=> ?_⟩
 unfold soQ at hev
 split at hev
 case h_2=>exact hev.elim
 rename_i id
 replace hev:(match σ.mem id with
   | .sl e' _ l=>(match Nat.beq e e',b44 c l with | true,some l=>Q.opt (F l) fun r=> .done (.tup []) [(id,.sl e c r)] | _,_=> .fail)
   | _=>(.fail:U.Q)).Ev σ _ m v ws:=hev
 split at hev
 case h_2=>exact hev.elim
 rename_i e' c' l' hm
 split at hev
 case h_2=>exact hev.elim
 rename_i l he hl
 obtain ⟨r,hF,_,rfl,rfl⟩:=hev
 match us,has with
 | [],has=>exact has.elim
 | _::_::_,has=>exact has.2.elim
 | [u],has=>
 obtain ⟨hce,hle⟩:=a2b (G:=noG) (w:=default) hl
 subst hce
 subst hle
 have he:=qC he
 subst he
 have hmem:=hR.mem id
 rw [hm] at hmem
 have hO:=b4m hc1 hmem
 obtain ⟨ad,cap,hsh,_⟩:=hO.shape
 rw [show u=π id from has.1.2.1]
 refine (h _ _ _ _ hO hF).mono fun q w' ⟨hq,hE,hO'⟩=>⟨_,hq,fun d=>⟨Z,π,?_⟩⟩
 refine hR.set (fun hh=>by rw [hm] at hh;cases hh) (fun hh=>by cases hh) (hE.mono fun b hb=> ?_) (fun X' hle hw=> ?_) (fun b hb=> ?_) fun X' _=>⟨[],rfl,trivial⟩
 ·rw [hm];exact (a6t hsh).1 hb
 ·exact b6w hc2 hO' X' hw
 ·rw [hm];exact hb
end
end Go.SX
namespace Go.SX
open Go Go.PL
section
variable {P:Program} {n:Nat}
def c10 (P:Program):List Oper -> ((Nat -> Value) -> World -> Prop) -> (Nat -> Value) -> World -> Prop
 | [],K,ρ,w=>K ρ w
 | o::r,K,ρ,w=>o.guard=none /\ y9 P o (ev ρ) w fun v w'=>c10 P r K (a9j ρ o.dst v) w'
theorem c10.mono: ∀{ops:List Oper} {K K':(Nat -> Value) -> World -> Prop} {ρ:Nat -> Value} {w:World},c10 P ops K ρ w -> (∀ρ w,K ρ w -> K' ρ w) -> c10 P ops K' ρ w
 | [],_,_,_,_,h,hk=>hk _ _ h
 | _::_,_,_,_,_,h,hk=>⟨h.1,h.2.mono fun _ _ h'=>c10.mono h' hk⟩
theorem c10.append: ∀{a b:List Oper} {K:(Nat -> Value) -> World -> Prop} {ρ:Nat -> Value} {w:World},c10 P a (c10 P b K) ρ w -> c10 P (a++b) K ρ w
 | [],_,_,_,_,h=>h
 | _::a,b,K,_,_,h=>⟨h.1,h.2.mono fun _ _ h'=>c10.append (a:=a) h'⟩
theorem WP.straight {Q:Exit -> (Nat -> Value) -> World -> Prop} {id:Nat} {ops:List Oper} {ρ:Nat -> Value} {w:World} (hc:(Plan.okTmps ops n&&Plan.okSel ops)=true) (h:c10 P ops (Q .normal) ρ w):WP P n (.region id ops.toArray false) Q ρ w:=by
 rw [qB] at hc
 intro rr ds _
 refine wpIn_region ?_
 have key: ∀(m k:Nat) (ρ:Nat -> Value) (w:World),k+m=ops.length -> c10 P (ops.drop k) (Q .normal) ρ w -> wpOpsIn (FR rr) 9 P ops.toArray (fun e a w=> ∃ρ',a=Frd n ρ' ds /\ Q e ρ' w) (List.range' k m) (Frd n ρ ds) w:=by
  intro m
  induction m with
  | zero=>
    intro k ρ w hk h
    rw [List.drop_of_length_le (by omega)] at h
    exact ⟨ρ,rfl,h⟩
  | succ m ih=>
    intro k ρ w hk h
    have hklt:k<ops.length:=by omega
    have ho:ops[k]? =some ops[k]:=qG hklt
    rw [List.drop_eq_getElem_cons hklt] at h
    rw [List.range'_succ,wpOpsIn_cons]
    unfold wpOpIn
    simp only [List.getElem?_toArray,ho]
    have hw:Region.wanted ops[k] (yielded ops.toArray (Frd n ρ ds).tmps)=true:=by
     unfold Region.wanted
     rw [h.1]
    rw [if_pos hw]
    refine y9.wp (K:=fun v w'=>c10 P (ops.drop (k+1)) (Q .normal) (a9j ρ ops[k].dst v) w') ?_ ?_
    ·have h1:=h.2
     unfold y9 at h1⊢
     rwa [b5f hc.1 hc.2 ho ρ]
    ·intro v w' h1
     rw [c04]
     exact ih (k+1) _ _ (by omega) h1
 rw [List.range_eq_range']
 simpa using key ops.length 0 ρ w (by simp) (by simpa using h)
end
section
variable {P:Program} {U:Uni} {Φ:Phi U} {E:Env}
def d0s (P:Program) {U:Uni} (Φ:Phi U) {R:Type}:Nat -> List Oper -> U.St -> (U.St -> Option R) -> Option R
 | _,[],σ,K=>K σ
 | b,o::r,σ,K=>match o.guard with
   | none=>(opQ P Φ b o.op).eval σ 0 fun _ v ws=>d0s P Φ (b+16) r (σ.app o.dst v ws) K
   | some _=>none
def d0d (ops:List Oper):List Nat:=ops.filterMap (·.dst)
theorem c5f {o:Oper} {r:List Oper} {t:Nat} (h:t∉d0d (o::r)):t∉d0d r /\ ∀u (ρ:Nat -> Value),a9j ρ o.dst u t=ρ t:=by
 unfold d0d at h⊢
 refine ⟨fun hh=>h ?_,fun u ρ=> ?_⟩
 ·obtain ⟨o',ho',he⟩:=List.mem_filterMap.1 hh
  exact List.mem_filterMap.2 ⟨o',qJ _ ho',he⟩
 ·cases hd:o.dst with
  | none=>rfl
  | some d=>exact b5q _ _ fun e=>h (List.mem_filterMap.2 ⟨o,qI,by rw [hd,e]⟩)
theorem b4f (hU:UOK U) (hΦ:OKΦ P Φ) {R:Type}: ∀(ops:List Oper) (b:Nat) (σ:U.St) (K:U.St -> Option R) (r:R) (Z:Nat -> Prop) (π:Nat -> Value) (ρ:Nat -> Value) (w:World),d0s P Φ b ops σ K=some r -> Rel E Z π σ ρ w -> c10 P ops (fun ρ' w'=>(∃σ' Z' π',K σ'=some r /\ Rel E Z' π' σ' ρ' w') /\ ∀t,t∉d0d ops -> ρ' t=ρ t) ρ w
 | [],b,σ,K,r,Z,π,ρ,w,h,hR=>⟨⟨σ,Z,π,h,hR⟩,fun _ _=>rfl⟩
 | o::ops,b,σ,K,r,Z,π,ρ,w,h,hR=>by
   unfold d0s at h
   split at h
   ·rename_i hg
    obtain ⟨m,v,ws,hev,h⟩:=c1h h
    refine ⟨hg,(b5a hU hΦ hR hev).mono ?_⟩
    rintro u w' ⟨Z',π',hR'⟩
    refine (b4f hU hΦ ops _ _ K r Z' π' _ w' h hR').mono ?_
    rintro ρ' w'' ⟨h1,h2⟩
    exact ⟨h1,fun t ht=>by rw [h2 t (c5f ht).1,(c5f ht).2]⟩
   ·cases h
theorem b0g {ops:List Oper} {T:List Nat} (h:(T.all fun t=> !((d0d ops).any (Nat.beq t)))=true) {t:Nat} (ht:t∈T):t∉d0d ops:=fun hm=>by
 have h1:=List.all_eq_true.1 h t ht
 have h2:(d0d ops).any (Nat.beq t)=true:=List.any_eq_true.2 ⟨t,hm,Nat.beq_refl t⟩
 rw [h2] at h1;cases h1
def cA:Code -> Code | .seq a _=>a | .cond _ a _=>a | c=>c
def cB:Code -> Code | .seq _ b=>b | .cond _ _ b=>b | c=>c
def cK:Code -> Code | .block _ a=>a | .loop a=>a | c=>c
def b9d:Code -> List Oper | .region _ a _=>a.toList | _=>[]
def d3t (n:Nat):Code -> Bool | .region _ a false=>Plan.okTmps a.toList n&&Plan.okSel a.toList | _=>false
def f3h:Code -> Bool | .seq _ _=>true | _=>false
def f4w (id:Nat):Code -> Bool | .block i _=>Nat.beq i id | _=>false
def e6x:Code -> Bool | .loop _=>true | _=>false
def e1v (n t:Nat):Code -> Bool | .cond (.tmp t') _ _=>Nat.beq t' t&&Nat.blt t n | _=>false
section
variable {n:Nat} {c:Code} {Q:Exit -> (Nat -> Value) -> World -> Prop} {ρ:Nat -> Value} {w:World}
theorem WP.seqP (h:f3h c=true) (hw:WP P n (cA c) (c8p (WP P n (cB c) Q) Q) ρ w):WP P n c Q ρ w:=by
 cases c<;>first | exact WP.seq hw | (exact absurd h (by simp [f3h]))
theorem WP.blockP {id:Nat} (h:f4w id c=true) (hw:WP P n (cK c) (d57 id Q) ρ w):WP P n c Q ρ w:=by
 cases c<;>first | (rename_i i a;obtain rfl:=qC (show Nat.beq i id=true from h);exact WP.block hw) | (exact absurd h (by simp [f4w]))
theorem WP.loopP (h:e6x c=true) (hw:WP P n (.loop (cK c)) Q ρ w):WP P n c Q ρ w:=by
 cases c<;>first | exact hw | (exact absurd h (by simp [e6x]))
theorem WP.condP {t:Nat} {b:Bool} (h:e1v n t c=true) (hb:ρ t= .bool b) (ht:b=true -> WP P n (cA c) Q ρ w) (hf:b=false -> WP P n (cB c) Q ρ w):WP P n c Q ρ w:=by
 cases c
 case cond o a d=>
  cases o
  case tmp t'=>
   have h:(Nat.beq t' t&&Nat.blt t n)=true:=h
   rw [qB] at h
   obtain rfl:=qC h.1
   exact WP.cond (t:=b) (by have:=h.2;simp only [Nat.blt_eq] at this;exact decide_eq_true this) hb ht hf
  all_goals exact absurd h (by simp [e1v])
 all_goals exact absurd h (by simp [e1v])
def e6q:Code -> Bool | .skip=>true | _=>false
def e67 (id:Nat):Code -> Bool | .exit i=>Nat.beq i id | _=>false
def f1v:Code -> Bool | .ret=>true | _=>false
theorem WP.skipP (h:e6q c=true) (hq:Q .normal ρ w):WP P n c Q ρ w:=by
 cases c<;>first | exact WP.skip hq | (exact absurd h (by simp [e6q]))
theorem WP.exitP {id:Nat} (h:e67 id c=true) (hq:Q (.exit id) ρ w):WP P n c Q ρ w:=by
 cases c<;>first | (rename_i i;obtain rfl:=qC (show Nat.beq i id=true from h);exact WP.exit hq) | (exact absurd h (by simp [e67]))
theorem WP.retP (h:f1v c=true) (hq:Q .ret ρ w):WP P n c Q ρ w:=by
 cases c<;>first | exact WP.ret hq | (exact absurd h (by simp [f1v]))
theorem WP.regP (h:d3t n c=true) (hs:c10 P (b9d c) (Q .normal) ρ w):WP P n c Q ρ w:=by
 cases c
 case region id a d=>
  cases d
  ·have:=WP.straight (id:=id) (ops:=a.toList) (P:=P) (n:=n) (Q:=Q) (ρ:=ρ) (w:=w) h hs
   rwa [Array.toArray_toList] at this
  ·exact absurd h (by simp [d3t])
 all_goals exact absurd h (by simp [d3t])
theorem WP.fragP (hU:UOK U) (hΦ:OKΦ P Φ) (h:d3t n c=true) {R:Type} {b:Nat} {σ:U.St} {K:U.St -> Option R} {r:R} {Z:Nat -> Prop} {π:Nat -> Value} (hr:d0s P Φ b (b9d c) σ K=some r) (hR:Rel E Z π σ ρ w)
  (hk: ∀σ' Z' π' ρ' w',K σ'=some r -> Rel E Z' π' σ' ρ' w' -> (∀t,t∉d0d (b9d c) -> ρ' t=ρ t) -> Q .normal ρ' w'):WP P n c Q ρ w:=
 WP.regP h ((b4f hU hΦ _ _ _ _ _ _ _ _ _ hr hR).mono fun ρ' w' ⟨⟨σ',Z',π',h1,h2⟩,h3⟩=>hk σ' Z' π' ρ' w' h1 h2 h3)
end
def refM {U:Uni} (s:U.St) (t:Nat):Option U.MC:=match s.slot t with | .ref id=>some (s.mem id) | _=>none
theorem c23 {s:U.St} {t:Nat} {m:U.MC} (h:refM s t=some m): ∃id,s.slot t= .ref id /\ s.mem id=m:=by
 unfold refM at h
 split at h
 ·rename_i id hs;exact ⟨id,hs,qH h⟩
 ·cases h
theorem Rel.refM {Z:Nat -> Prop} {π:Nat -> Value} {σ:U.St} {ρ:Nat -> Value} {w:World} (h:Rel E Z π σ ρ w) {t:Nat} {m:U.MC} (hm:refM σ t=some m):MR (cx Z π σ w) m (ρ t) /\ ∀b,MB m (ρ t) b -> ¬Z b /\ b<w.heap.size /\ (E.G b \/ E.w0.heap.size <= b):=by
 obtain ⟨id,h1,h2⟩:=c23 hm
 have hs:=h.slot t
 rw [h1] at hs
 have h3:=h.mem id
 rw [h2] at h3
 rw [show ρ t=π id from hs.2.1]
 refine ⟨h3,fun b hb=>h.own id b ?_⟩
 rw [h2];exact hb
theorem b4l {X:Cx} {ρ:Nat -> Value} {me:List (Nat×U.MC)} {nx:Nat}: ∀{sl:List (Nat×U.AV)},(∀p∈sl,AVR X p.2 (ρ p.1)) -> ∀t,AVR X ((⟨sl,me,nx⟩:U.St).slot t) (ρ t):=by
 intro sl h t
 unfold St.slot
 cases hl:lk t sl with
 | none=>exact trivial
 | some a=>exact h (t,a) (a98 hl)
theorem Rel.fresh {sl:List (Nat×U.AV)} {nx:Nat} {ρ:Nat -> Value} {w:World} (ht:U.tab w /\ ∀b,U.tb b -> b<w.heap.size) (h: ∀t,AVR (⟨fun b=>b<w.heap.size,fun _=>undef,fun _=>False,w⟩:Cx) ((⟨sl,[],nx⟩:U.St).slot t) (ρ t)):
  Rel ⟨w,noG,fun b=>b<w.heap.size,fun _=>False,fun _=>undef⟩ (fun b=>b<w.heap.size) (fun _=>undef) (⟨sl,[],nx⟩:U.St) ρ w:=by
 have hu:b39 (⟨sl,[],nx⟩:U.St)=fun _=>False:=funext fun id=>propext ⟨fun hh=>hh rfl,False.elim⟩
 refine ⟨fun t=> ?_,fun id=>trivial,fun id b hb=>hb.elim,fun id id' b _ hb=>hb.elim,fun b hb=>hb,fun b hb=> .inl hb,fun b hb=>hb,Ext.refl _ _,fun id h=>h.elim,ht.1,fun b hb=>⟨ht.2 b hb,fun hh=>hh⟩⟩
 unfold cx
 rw [hu]
 exact h t
theorem Rel.fresh1 {sl:List (Nat×U.AV)} {nx:Nat} {ρ:Nat -> Value} {w:World} {e:TypeId} {c:U.C} {l:List (U.T c)} {v:Value} (ht:U.tab w /\ ∀b,U.tb b -> b<w.heap.size /\ hdV v≠some b)
  (hm:MR (⟨fun b=>b<w.heap.size /\ hdV v≠some b,fun _=>v,fun id=>id=0,w⟩:Cx) (.sl e c l:U.MC) v) (hlt: ∀b,hdV v=some b -> b<w.heap.size)
  (h: ∀t,AVR (⟨fun b=>b<w.heap.size /\ hdV v≠some b,fun _=>v,fun id=>id=0,w⟩:Cx) ((⟨sl,[(0,.sl e c l)],nx⟩:U.St).slot t) (ρ t)):
  Rel ⟨w,fun b=>hdV v=some b,fun b=>b<w.heap.size /\ hdV v≠some b,fun _=>False,fun _=>undef⟩ (fun b=>b<w.heap.size /\ hdV v≠some b) (fun _=>v) (⟨sl,[(0,.sl e c l)],nx⟩:U.St) ρ w:=by
 have hmem: ∀id,(⟨sl,[(0,.sl e c l)],nx⟩:U.St).mem id=if id=0 then .sl e c l else .never:=by
  intro id
  unfold St.mem lk
  cases id with
  | zero=>rfl
  | succ k=>rfl
 have hu:b39 (⟨sl,[(0,.sl e c l)],nx⟩:U.St)=fun id=>id=0:=funext fun id=>propext (by
  unfold b39
  rw [hmem]
  split
  ·rename_i h;exact ⟨fun _=>h,fun _ hh=>by cases hh⟩
  ·rename_i h;exact ⟨fun hh=>absurd rfl hh,fun hh=>absurd hh h⟩)
 have hMB: ∀id b,MB ((⟨sl,[(0,.sl e c l)],nx⟩:U.St).mem id) v b -> id=0 /\ hdV v=some b:=by
  intro id b hb
  rw [hmem] at hb
  split at hb
  ·rename_i h;exact ⟨h,hb⟩
  ·exact hb.elim
 refine ⟨fun t=> ?_,fun id=> ?_,fun id b hb=> ?_,fun id id' b hne hb hb'=> ?_,fun b hb=>hb.1,fun b hb=> .inl hb,fun b hb=>hb,Ext.refl _ _,fun id h=>h.elim,ht.1,fun b hb=>ht.2 b hb⟩
 ·unfold cx
  rw [hu]
  exact h t
 ·unfold cx
  rw [hu,hmem]
  split
  ·exact hm
  ·exact trivial
 ·have:=(hMB id b hb).2
  exact ⟨fun hz=>hz.2 this,hlt b this,.inl this⟩
 ·exact hne ((hMB _ _ hb).1.trans (hMB _ _ hb').1.symm)
end
end Go.SX
namespace Go.SX
open Go Go.PL
def kvv (q:Int×Int):Value:= .agg #[.int .i64 q.1,.int .i64 q.2]
theorem e9o {a b:Int×Int} (h:kvv a=kvv b):a=b:=by
 simp only [kvv,Value.agg.injEq,Array.mk.injEq,List.cons.injEq,Value.int.injEq,true_and,and_true] at h
 exact Prod.ext h.1 h.2
abbrev ML:=List ((Int×Int)×Value)
def a3d (q:((Int×Int)×Value)×Nat):MapEntry:={key:=kvv q.1.1,val:=q.1.2,born:=q.2}
def b4r (L:ML):Obj:= .map (L.zipIdx.map a3d).toArray L.length
theorem e28: ∀{α:Type} (L:List ((Int×Int)×α)) (k:Int×Int),ixK L k <= L.length
 | _,[],_=>Nat.le_refl _
 | _,q::r,k=>by
   unfold ixK
   split
   ·exact Nat.zero_le _
   ·exact Nat.succ_le_succ (e28 r k)
theorem e27: ∀{α:Type} (L:List ((Int×Int)×α)) (k:Int×Int),ixK L k<L.length -> ∃v,L[ixK L k]? =some (k,v)
 | _,[],_,h=>absurd h (Nat.not_lt_zero _)
 | _,q::r,k,h=>by
   unfold ixK at h⊢
   split
   ·rename_i e
    exact ⟨q.2,by rw [<- e];rfl⟩
   ·rename_i e
    rw [if_neg e] at h
    obtain ⟨v,hv⟩:=e27 r k (Nat.lt_of_succ_lt_succ h)
    exact ⟨v,by rw [List.getElem?_cons_succ];exact hv⟩
theorem d54: ∀{α:Type} (L:List ((Int×Int)×α)) (k:Int×Int),¬ixK L k<L.length -> ∀q∈L,q.1≠k
 | _,[],_,_,_,h=>by cases h
 | _,p::r,k,h,q,hq=>by
   unfold ixK at h
   split at h
   ·exact absurd (Nat.succ_pos _) h
   ·rename_i e
    rcases qO.1 hq with rfl | hq
    ·exact e
    ·exact d54 r k (fun hh=>h (Nat.succ_lt_succ hh)) q hq
theorem d4o: ∀{α:Type} (L:List ((Int×Int)×α)) (k:Int×Int) (j:Nat) (v:α),(L.map (·.1)).Nodup -> L[j]? =some (k,v) -> ixK L k=j
 | _,[],_,_,_,_,h=>by simp at h
 | _,p::r,k,0,v,_,h=>by
   simp at h
   subst h
   unfold ixK
   rw [if_pos rfl]
 | _,p::r,k,j+1,v,hn,h=>by
   rw [List.getElem?_cons_succ] at h
   simp only [List.map_cons,List.nodup_cons] at hn
   have hne:p.1≠k:=fun e=>hn.1 (by rw [e];exact List.mem_map.2 ⟨(k,v),qE h,rfl⟩)
   unfold ixK
   rw [if_neg hne,d4o r k j v hn.2 h]
theorem e8n {α:Type} (L:List ((Int×Int)×α)) (k:Int×Int) (z:α): ∃v,(b7h L k z)[ixK L k]? =some (k,v) /\ (ixK L k<L.length /\ L[ixK L k]? =some (k,v) \/ ixK L k=L.length /\ v=z):=by
 unfold b7h
 split
 ·rename_i h
  obtain ⟨v,hv⟩:=e27 L k h
  exact ⟨v,hv,.inl ⟨h,hv⟩⟩
 ·rename_i h
  have h2:ixK L k=L.length:=by have:=e28 L k;omega
  exact ⟨z,by rw [h2];simp,.inr ⟨h2,rfl⟩⟩
theorem d11 {α:Type}: ∀(L:List α) (n j:Nat),(L.zipIdx n)[j]? =(L[j]?).map fun x=>(x,n+j)
 | [],n,j=>by simp
 | x::r,n,0=>by simp
 | x::r,n,j+1=>by
   rw [List.zipIdx_cons,List.getElem?_cons_succ,List.getElem?_cons_succ,d11 r (n+1) j]
   congr 1
   funext y
   rw [Nat.add_right_comm,Nat.add_assoc]
theorem b2t (L:ML) (j:Nat):(L.zipIdx.map a3d)[j]? =(L[j]?).map fun x=>a3d (x,j):=by
 rw [List.getElem?_map,d11,Option.map_map]
 simp [Function.comp_def]
section
variable {P:Program} {t k e:TypeId} {b:Nat} {L:ML} {w:World} {q:Int×Int} {z:Value}
structure KeyS (P:Program) (k:TypeId) (S:Int×Int -> Prop):Prop where
 law:WideMaps.KeyLaw P k
 rd: ∀q,S q -> ∃l,keyOf P k (kvv q)=some l
def e5m (P:Program) (t:TypeId):Bool:=match P.underlying t with | some (.int .i64)=>Nat.beq (P.cellsOf t) 1 | _=>false
def e0z (P:Program) (k:TypeId):Bool:=match P.underlying k with
 | some (.struct fs)=>(match fs.toList with
   | [f0,f1]=>(P.keyType k&&(Nat.beq (P.cellsOf k) 2&&Nat.blt 0 P.types.size))&&((f0.name != "_" &&(f1.name != "_" &&(Nat.beq f0.offset 0&&Nat.beq f1.offset 1)))&&(e5m P f0.type&&e5m P f1.type))
   | _=>false)
 | _=>false
theorem c58 {P:Program} {t:TypeId} (h:e5m P t=true) {d:Nat} {n:Int} (hw:(Lit.int .i64 n).wf=true) {r:List Value}:P.cellsOf t=1 /\ P.keyLits (d+1) t [.int .i64 n]=some [.int .i64 n]:=by
 unfold e5m at h
 split at h
 ·rename_i hu
  refine ⟨qC h,?_⟩
  unfold Program.keyLits
  rw [hu]
  simp [hw]
 ·cases h
theorem d83 {P:Program} {k:TypeId} (h:e0z P k=true) {q:Int×Int} (h1:(Lit.int .i64 q.1).wf=true) (h2:(Lit.int .i64 q.2).wf=true): ∃l,keyOf P k (kvv q)=some l:=by
 unfold e0z at h
 split at h
 case h_2=>cases h
 rename_i fs hu
 split at h
 case h_2=>cases h
 rename_i f0 f1 hfs
 simp only [qB] at h
 obtain ⟨⟨hk,hc,hsz⟩,⟨n0,n1,o0,o1⟩,i0,i1⟩:=h
 have hc:=qC hc
 have o0:=qC o0
 have o1:=qC o1
 have hpos: ∃d,P.types.size=d+1:=by
  cases hs:P.types.size with
  | zero=>rw [hs] at hsz;cases hsz
  | succ d=>exact ⟨d,rfl⟩
 obtain ⟨d,hd⟩:=hpos
 obtain ⟨c0,l0⟩:=c58 (d:=d) i0 h1 (r:=[])
 obtain ⟨c1,l1⟩:=c58 (d:=d) i1 h2 (r:=[])
 have hall:fs.all (fun f=>f.name != "_")=true:=by
  rw [<- Array.all_toList,hfs]
  simp only [List.all_cons,List.all_nil,Bool.and_true,qB]
  exact ⟨n0,n1⟩
 unfold keyOf
 rw [hu]
 simp only [hk,Bool.true_and]
 have hform:(kvv q).formed P k=true:=by
  unfold kvv Value.formed
  rw [hu]
  simp [hc]
 rw [hform,if_pos rfl,hd]
 unfold Program.keyLits
 rw [hu]
 have hcells:(kvv q).cells.toList=[.int .i64 q.1,.int .i64 q.2]:=rfl
 rw [hcells]
 simp only [hc,hall,List.length_cons,List.length_nil,and_self,if_true,hfs,List.mapM_cons,List.mapM_nil,o0,o1,c0,c1,List.drop_zero,List.take_succ_cons,List.take_zero,List.drop_succ_cons,l0,l1]
 exact ⟨_,rfl⟩
theorem e4t {S:Int×Int -> Prop} (K:KeyS P k S) (hn:(L.map (·.1)).Nodup) (hS: ∀p∈L,S p.1) (hq:S q):
  (Instr.findKey k (kvv q) (L.zipIdx.map a3d)).run P w= .ok (match L[ixK L q]? with | some p=>some (ixK L q,p.2) | none=>none) w:=by
 obtain ⟨l,hl⟩:=K.rd q hq
 have hk: ∀x∈L.zipIdx.map a3d,∃l,keyOf P k x.key=some l:=by
  intro x hx
  obtain ⟨y,hy,rfl⟩:=List.mem_map.1 hx
  obtain ⟨j,hj⟩:=List.mem_iff_getElem?.1 hy
  rw [d11] at hj
  cases hL:L[j]? with
  | none=>rw [hL] at hj;cases hj
  | some p=>
    rw [hL] at hj
    have hj:=qH hj
    rw [<- hj]
    exact K.rd _ (hS p (qE hL))
 rcases K.law.find w hl (L.zipIdx.map a3d) hk with ⟨h1,h2⟩ | ⟨j,e0,h1,h2,h3⟩
 ·rw [h1]
  have:L[ixK L q]? =none:=by
   by_cases hlt:ixK L q<L.length
   ·obtain ⟨v,hv⟩:=e27 L q hlt
    have hm:a3d ((q,v),ixK L q)∈L.zipIdx.map a3d:=qE (i:=ixK L q) (by rw [b2t,hv];rfl)
    exact absurd rfl (h2 _ hm)
   ·exact List.getElem?_eq_none (by omega)
  rw [this]
 ·rw [h1]
  rw [b2t] at h2
  cases hL:L[j]? with
  | none=>rw [hL] at h2;cases h2
  | some p=>
    rw [hL] at h2
    have h2:=qH h2
    obtain ⟨pk,pv⟩:=p
    have hpk:pk=q:=e9o (by rw [<- h2] at h3;exact h3)
    subst hpk
    rw [d4o L pk j pv hn hL,hL,<- h2]
    rfl
theorem c1i {α:Type} {f:α -> α}: ∀(l:List α) (j:Nat),(∀x,l[j]? =some x -> f x=x) -> l.modify j f=l
 | [],_,_=>by simp
 | x::r,0,h=>by simp [h x rfl]
 | x::r,j+1,h=>by rw [List.modify_succ_cons,c1i r j fun y hy=>h y (by rw [List.getElem?_cons_succ];exact hy)]
theorem c8b {S:Int×Int -> Prop} (K:KeyS P k S) (ht:P.underlying t=some (.map k e)) (hz:(zeroValue e).run P w= .ok z w) (hb:w.heap[b]? =some (b4r L)) (hn:(L.map (·.1)).Nodup) (hS: ∀p∈L,S p.1) (hq:S q):
  ∃v,(Instr.mapEntry t (.map (some b)) (kvv q)).run P w= .ok (.tuple #[v,.int .i64 (ixK L q:Int)]) {w with heap:=w.heap.setIfInBounds b (b4r (b7h L q z))} /\ (b7h L q z)[ixK L q]? =some (q,v):=by
 have hf:=e4t (w:=w) K hn hS hq
 obtain ⟨l,hl⟩:=K.rd q hq
 have hc:(Instr.checkKey false 10000 k (kvv q)).run P w= .ok () w:=K.law.check w false hl
 have hst:(Instr.keyThatStays (kvv q) (kvv q)).run P w= .ok (kvv q) w:=K.law.stays w hl
 have hb':w.heap[b]? =some (.map (L.zipIdx.map a3d).toArray L.length):=hb
 have hg:(getObj b).run P w= .ok (.map (L.zipIdx.map a3d).toArray L.length) w:=MapKept.run_getObj_map hb'
 have hs: ∀o,(setObj b o).run P w= .ok () {w with heap:=w.heap.setIfInBounds b o}:=fun o=>MapKept.run_setObj_map o hb'
 obtain ⟨v,hv,hcase⟩:=e8n L q z
 refine ⟨v,?_,hv⟩
 rcases hcase with ⟨h1,h2⟩ | ⟨h1,h2⟩
 ·rw [h2] at hf
  have hek:((L.zipIdx.map a3d).toArray[ixK L q]?)=some (a3d ((q,v),ixK L q)):=by
   rw [List.getElem?_toArray,b2t,h2];rfl
  have hmod:(L.zipIdx.map a3d).toArray.modify (ixK L q) (fun x=>{x with key:=kvv q})=(L.zipIdx.map a3d).toArray:=by
   rw [List.modify_toArray,c1i]
   intro x hx
   rw [b2t,h2] at hx
   have hx:=qH hx
   rw [<- hx];rfl
  have hee:b7h L q z=L:=by unfold b7h;rw [if_pos h1]
  rw [hee]
  have hst2:(Instr.keyThatStays ((Option.map (fun x=>x.key) (some (a3d ((q,v),ixK L q)))).getD (kvv q)) (kvv q)).run P w= .ok (kvv q) w:=hst
  simp only [Instr.mapEntry,Sem.run_bind,run_underlying ht,hg,hc,hf,Result.andThen_ok,hek,hst2,hmod,hs,Sem.run_pure]
  rfl
 ·have hnone:L[ixK L q]? =none:=List.getElem?_eq_none (by omega)
  rw [hnone] at hf
  have hee:b7h L q z=L++[(q,z)]:=by unfold b7h;rw [if_neg (by omega)]
  rw [hee,h2]
  have hpush:(L.zipIdx.map a3d).toArray.push {key:=kvv q,val:=z,born:=L.length}=((L++[(q,z)]).zipIdx.map a3d).toArray:=by
   simp [List.zipIdx_append,a3d]
  simp only [Instr.mapEntry,Sem.run_bind,run_underlying ht,hg,hc,hf,Result.andThen_ok,hz,hs,Sem.run_pure,hpush]
  rw [h1]
  simp [b4r]
  rfl
theorem c43 {v u:Value} {j:Nat} (hb:w.heap[b]? =some (b4r L)) (hj:L[j]? =some (q,v)):
  (Instr.entryStore t (.map (some b)) (.int .i64 (j:Int)) u).run P w= .ok () {w with heap:=w.heap.setIfInBounds b (b4r (L.set j (q,u)))}:=by
 have hb':w.heap[b]? =some (.map (L.zipIdx.map a3d).toArray L.length):=hb
 have hg:(getObj b).run P w= .ok (.map (L.zipIdx.map a3d).toArray L.length) w:=MapKept.run_getObj_map hb'
 have hs: ∀o,(setObj b o).run P w= .ok () {w with heap:=w.heap.setIfInBounds b o}:=fun o=>MapKept.run_setObj_map o hb'
 have hlt:j<L.length:=(qD.1 hj).1
 have hfi:(L.zipIdx.map a3d).toArray.findIdx? (fun x=>((x.born:Nat):Int)==((j:Nat):Int))=some j:=by
  rw [List.findIdx?_toArray,List.findIdx?_eq_some_iff_getElem]
  refine ⟨by simpa using hlt,?_,fun i hi=> ?_⟩
  ·simp [a3d]
  ·have: ¬i=j:=by omega
   simp [a3d]
   omega
 have hmod:(L.zipIdx.map a3d).toArray.modify j (fun x=>{x with val:=u})=((L.set j (q,u)).zipIdx.map a3d).toArray:=by
  rw [List.modify_toArray]
  congr 1
  apply List.ext_getElem?
  intro i
  rw [List.getElem?_modify,b2t,b2t,List.getElem?_set]
  by_cases hi:j=i
  ·subst hi
   rw [if_pos rfl,if_pos hlt,hj]
   simp [a3d]
  ·rw [if_neg hi]
   simp [hi]
 have ha:(asInt (.int .i64 (j:Int))).run P w= .ok (j:Int) w:=rfl
 simp only [Instr.entryStore,Sem.run_bind,hg,Result.andThen_ok,ha,hfi,hmod,hs]
 simp [b4r]
def itV (b n:Nat) (s:List Nat):Obj:= .mapIter (some b) n s.toArray n
theorem e2d (ht:P.underlying t=some (.map k e)) (hb:w.heap[b]? =some (b4r L)):(Instr.range t (.map (some b))).run P w= .ok (.pointer (some ⟨w.heap.size,0,none⟩)) (w.alloc (itV b L.length [])):=by
 have hg:(getObj b).run P w= .ok (.map (L.zipIdx.map a3d).toArray L.length) w:=MapKept.run_getObj_map hb
 simp [Instr.range,run_underlying ht,hg,Result.andThen,itV]
theorem e49 (L:ML) (hne:L≠[]):(L.zipIdx.map a3d).toArray.all (fun x=>decide (x.born >= L.length))=false:=by
 cases L with
 | nil=>exact absurd rfl hne
 | cons p r=>
   simp only [List.all_toArray,List.zipIdx_cons,List.map_cons,List.all_cons,a3d]
   simp
theorem e5i (L:ML) (s:List Nat):(((L.zipIdx.map a3d).toArray.filter fun x=> !s.toArray.contains x.born).filter fun x=>decide (x.born<L.length))=(L.zipIdx.map a3d).toArray.filter fun x=> !s.toArray.contains x.born:=by
 apply Array.ext'
 simp only [List.filter_toArray]
 rw [List.filter_eq_self]
 intro x hx
 obtain ⟨hx,_⟩:=List.mem_filter.1 hx
 obtain ⟨j,hj⟩:=List.mem_iff_getElem?.1 hx
 rw [b2t] at hj
 cases hL:L[j]? with
 | none=>rw [hL] at hj;cases hj
 | some p=>
   rw [hL] at hj
   have hj:=qH hj
   rw [<- hj]
   exact decide_eq_true (qD.1 hL).1
theorem e5e (L:ML) (s:List Nat):(((L.zipIdx.map a3d).toArray.filter fun x=> !s.toArray.contains x.born).filter fun x=>decide (x.born >= L.length))= #[]:=by
 apply Array.ext'
 simp only [List.filter_toArray]
 rw [List.filter_eq_nil_iff]
 intro x hx
 obtain ⟨hx,_⟩:=List.mem_filter.1 hx
 obtain ⟨j,hj⟩:=List.mem_iff_getElem?.1 hx
 rw [b2t] at hj
 cases hL:L[j]? with
 | none=>rw [hL] at hj;cases hj
 | some p=>
   rw [hL] at hj
   have hj:=qH hj
   have:=(qD.1 hL).1
   rw [<- hj]
   simp [a3d]
   omega
theorem e3c {bi:Nat} {s:List Nat} {ty:TypeId} (hi:w.heap[bi]? =some (itV b L.length s)) (hb:w.heap[b]? =some (b4r L)):
  ((∀j,j<L.length -> j∈s) /\ (Instr.next (.pointer (some ⟨bi,0,none⟩)) false ty).run P w= .ok (.tuple #[.bool false]) w) \/
  ∃j q v wd,L[j]? =some (q,v) /\ j∉s /\ (wd.heap=w.heap /\ Ext noG w wd) /\ (Instr.next (.pointer (some ⟨bi,0,none⟩)) false ty).run P w= .ok (.tuple #[.bool true,kvv q,v]) {wd with heap:=wd.heap.setIfInBounds bi (itV b L.length (s++[j]))}:=by
 have hi':w.heap[bi]? =some (.mapIter (some b) L.length s.toArray L.length):=hi
 have hg:(getObj bi).run P w= .ok (.mapIter (some b) L.length s.toArray L.length) w:=by simp [getObj,Sem.run,hi']
 have hg2:(getObj b).run P w= .ok (.map (L.zipIdx.map a3d).toArray L.length) w:=MapKept.run_getObj_map hb
 have hun:(!s.toArray.isEmpty&& !(L.zipIdx.map a3d).toArray.isEmpty&&(L.zipIdx.map a3d).toArray.all (fun x=>decide (x.born >= L.length)))=false:=by
  by_cases hne:L=[]
  ·subst hne;simp
  ·rw [e49 L hne,Bool.and_false]
 generalize hleft:((L.zipIdx.map a3d).toArray.filter fun x=> !s.toArray.contains x.born)=left at*
 have hold:=e5i L s
 have hnew:=e5e L s
 rw [hleft] at hold hnew
 have hmem: ∀x∈left.toList,∃j q v,L[j]? =some (q,v) /\ j∉s /\ x=a3d ((q,v),j):=by
  intro x hx
  rw [<- hleft] at hx
  simp only [List.filter_toArray] at hx
  obtain ⟨hx,hs⟩:=List.mem_filter.1 hx
  obtain ⟨j,hj⟩:=List.mem_iff_getElem?.1 hx
  rw [b2t] at hj
  cases hL:L[j]? with
  | none=>rw [hL] at hj;cases hj
  | some p=>
    rw [hL] at hj
    have hj:=qH hj
    refine ⟨j,p.1,p.2,hL,?_,hj.symm⟩
    rw [<- hj] at hs
    simpa [a3d] using hs
 cases hl:left.toList with
 | nil=>
   have hle:left= #[]:=Array.toList_eq_nil_iff.1 hl
   subst hle
   refine .inl ⟨fun j hj=> ?_,?_⟩
   ·by_cases hjs:j∈s
    ·exact hjs
    ·exfalso
     have:a3d (L[j],j)∈(#[]:Array MapEntry).toList:=by
      rw [<- hleft]
      simp only [List.filter_toArray]
      refine List.mem_filter.2 ⟨qE (i:=j) (by rw [b2t,qG hj];rfl),?_⟩
      simpa [a3d] using hjs
     cases this
   ·simp only [Instr.next,Sem.run_bind,hg,hg2,Result.andThen_ok,hun,hleft,hold,hnew]
    simp [choose,Sem.run,Question.forced,Question.cut]
 | cons x r=>
   have hne:left.isEmpty=false:=by
    rw [Array.isEmpty_eq_false_iff]
    intro h0;rw [h0] at hl;cases hl
   right
   have hset: ∀(wd:World) (o:Obj),wd.heap=w.heap /\ Ext noG w wd -> (setObj bi o).run P wd= .ok () {wd with heap:=wd.heap.setIfInBounds bi o}:=by
    intro wd o hwd
    simp [setObj,Sem.run,hwd.1,hi']
   have hpos:0<left.size:=by rw [<- Array.length_toList,hl];simp
   have fin: ∀(i:Nat) (wd:World),i<left.size -> (wd.heap=w.heap /\ Ext noG w wd) -> (choose (.mapNext left.size)).run P w= .ok i wd -> ∃j q v wd,L[j]? =some (q,v) /\ j∉s /\ (wd.heap=w.heap /\ Ext noG w wd) /\ (Instr.next (.pointer (some ⟨bi,0,none⟩)) false ty).run P w= .ok (.tuple #[.bool true,kvv q,v]) {wd with heap:=wd.heap.setIfInBounds bi (itV b L.length (s++[j]))}:=by
    intro i wd hilt hwd hch
    obtain ⟨j,q,v,h1,h2,h3⟩:=hmem left[i] (by simp)
    refine ⟨j,q,v,wd,h1,h2,hwd,?_⟩
    have hget:((left++ #[]).map some)[i]? =some (some left[i]):=by simp [hilt]
    have hsz:(#[]++(left++ #[]).map some).size=left.size:=by simp
    simp only [Instr.next,Sem.run_bind,hg,hg2,Result.andThen_ok,hun,hleft,hold,hnew,hne,qM,if_false,hsz,hch]
    simp only [Array.empty_append,hget,Sem.run_bind,h3,a3d]
    have hpush:s.toArray.push j=(s++[j]).toArray:=by simp
    rw [hpush,hset wd _ hwd]
    rfl
   by_cases h1:left.size <= 1
   ·exact fin 0 w hpos ⟨rfl,Ext.refl _ _⟩ (by rw [run_choose,if_pos (by simp [Question.forced,h1])])
   ·exact fin ((Question.mapNext left.size).cut (w.tape w.drawn (.mapNext left.size))) {w with drawn:=w.drawn+1} (Nat.mod_lt _ hpos) ⟨rfl,⟨rfl,rfl,rfl,Nat.le_refl _,fun _ _ _=>rfl⟩⟩ (by rw [run_choose,if_neg (by simp [Question.forced,h1])])
theorem e1t {bi j:Nat} {s:List Nat} {v:Value} (hi:w.heap[bi]? =some (itV b L.length (s++[j]))) (hb:w.heap[b]? =some (b4r L)) (hj:L[j]? =some (q,v)):
  (Instr.entry (.pointer (some ⟨bi,0,none⟩))).run P w= .ok (.tuple #[kvv q,v]) w:=by
 have hi':w.heap[bi]? =some (.mapIter (some b) L.length (s++[j]).toArray L.length):=hi
 have hg:(getObj bi).run P w= .ok (.mapIter (some b) L.length (s++[j]).toArray L.length) w:=by simp [getObj,Sem.run,hi']
 have hg2:(getObj b).run P w= .ok (.map (L.zipIdx.map a3d).toArray L.length) w:=MapKept.run_getObj_map hb
 have hlt:j<L.length:=(qD.1 hj).1
 have hbk:(s++[j]).toArray.back? =some j:=by simp
 have hfi:(L.zipIdx.map a3d).toArray.find? (fun x=>x.born==j)=some (a3d ((q,v),j)):=by
  rw [List.find?_toArray,List.find?_eq_some_iff_getElem]
  refine ⟨by simp [a3d],j,by simpa using hlt,?_,fun i hi=> ?_⟩
  ·have:=b2t L j
   rw [hj,qG (by simpa using hlt)] at this
   exact qH this
  ·simp [a3d]
   omega
 simp only [Instr.entry,Sem.run_bind,hg,hg2,Result.andThen_ok,hbk,hfi]
 simp [a3d]
end
end Go.SX
namespace Go.SX
open Go Go.PL
abbrev nilS:Value:= .slice none 0 0
section
variable {β:Type} {tE:TypeId} {cells:β -> List Value} {n:Nat} {bm B:Nat} {w w':World} {V:ML} {L:List ((Int×Int)×List β)} {P:Program}
structure GrpI (tE:TypeId) (cells:β -> List Value) (n:Nat) (bm B:Nat) (w:World) (V:ML) (L:List ((Int×Int)×List β)):Prop where
 obj:w.heap[bm]? =some (b4r V)
 keys:V.map (·.1)=L.map (·.1)
 nd:(V.map (·.1)).Nodup
 own: ∀(j:Nat) q v s,V[j]? =some (q,v) -> L[j]? =some (q,s) -> PL.Own B tE n cells w v s
 dist: ∀(i j:Nat) qi vi qj vj b,i≠j -> V[i]? =some (qi,vi) -> V[j]? =some (qj,vj) -> vi.ownBlock=some b -> vj.ownBlock≠some b
 lt:bm<B
theorem c78 {α α':Type}: ∀{V:List ((Int×Int)×α)} {L:List ((Int×Int)×α')} (k:Int×Int),V.map (·.1)=L.map (·.1) -> ixK V k=ixK L k
 | [],[],_,_=>rfl
 | [],_::_,_,h=>by cases h
 | _::_,[],_,h=>by cases h
 | p::V,q::L,k,h=>by
   simp only [List.map_cons,List.cons.injEq] at h
   unfold ixK
   rw [h.1,c78 k h.2]
theorem c14 {α α':Type} {V:List ((Int×Int)×α)} {L:List ((Int×Int)×α')} (h:V.map (·.1)=L.map (·.1)):V.length=L.length:=by
 have:=congrArg List.length h
 simpa using this
theorem b8r {α α':Type} {V:List ((Int×Int)×α)} {L:List ((Int×Int)×α')} (h:V.map (·.1)=L.map (·.1)) {j:Nat} {q:Int×Int} {v:α} (hj:V[j]? =some (q,v)): ∃s,L[j]? =some (q,s):=by
 have h1:(V.map (·.1))[j]? =some q:=by rw [List.getElem?_map,hj];rfl
 rw [h,List.getElem?_map] at h1
 cases hL:L[j]? with
 | none=>rw [hL] at h1;cases h1
 | some p=>rw [hL] at h1;obtain rfl:=qH h1;exact ⟨p.2,rfl⟩
theorem e0q {α α':Type} {V:List ((Int×Int)×α)} {L:List ((Int×Int)×α')} (h:V.map (·.1)=L.map (·.1)) (k:Int×Int) (z:α) (z':α'):(b7h V k z).map (·.1)=(b7h L k z').map (·.1):=by
 unfold b7h
 rw [c78 k h,c14 h]
 split
 ·exact h
 ·rw [List.map_append,List.map_append,h];rfl
theorem f0p {α:Type} {V:List ((Int×Int)×α)} (h:(V.map (·.1)).Nodup) (k:Int×Int) (z:α):((b7h V k z).map (·.1)).Nodup:=by
 unfold b7h
 split
 ·exact h
 ·rename_i hk
  rw [List.map_append,List.nodup_append]
  refine ⟨h,by simp,fun a ha b hb=> ?_⟩
  obtain ⟨q,hq,rfl⟩:=List.mem_map.1 ha
  simp only [List.map_cons,List.map_nil,qF] at hb
  rw [hb]
  exact d54 V k hk q hq
theorem b67 {α:Type} {V:List ((Int×Int)×α)} {k:Int×Int} {z:α} {j:Nat} {p:(Int×Int)×α} (h:(b7h V k z)[j]? =some p):V[j]? =some p \/ (j=V.length /\ p=(k,z) /\ ixK V k=V.length):=by
 unfold b7h at h
 split at h
 ·exact .inl h
 ·rename_i hk
  rcases Nat.lt_trichotomy j V.length with hj | hj | hj
  ·rw [List.getElem?_append_left hj] at h;exact .inl h
  ·subst hj
   rw [List.getElem?_append_right (Nat.le_refl _)] at h
   simp at h
   exact .inr ⟨rfl,h.symm,by have:=e28 V k;omega⟩
  ·rw [List.getElem?_eq_none (by simp;omega)] at h;cases h
theorem GrpI.ext {G:Nat -> Prop} (h:GrpI tE cells n bm B w V L) (hE:Ext G w w') (hG: ∀b,G b -> b<B /\ b≠bm):GrpI tE cells n bm B w' V L:=
 ⟨(hE.block bm (qN.1 h.obj).1 fun hg=>(hG bm hg).2 rfl).trans h.obj,h.keys,h.nd,fun j q v s h1 h2=>(h.own j q v s h1 h2).ext hE fun b hb hg=>by
   have:=((h.own j q v s h1 h2).lt hb).1
   have:=(hG b hg).1
   omega,h.dist,h.lt⟩
theorem GrpI.exn (h:GrpI tE cells n bm B w V L) (hE:Ext noG w w'):GrpI tE cells n bm B w' V L:=h.ext hE fun b hb=>hb.elim
theorem GrpI.ent (h:GrpI tE cells n bm B w V L) (k:Int×Int):GrpI tE cells n bm B {w with heap:=w.heap.setIfInBounds bm (b4r (b7h V k nilS))} (b7h V k nilS) (b7h L k []):=by
 have hlt:=(qN.1 h.obj).1
 refine ⟨by simp [hlt],e0q h.keys k _ _,f0p h.nd k _,fun j q v s h1 h2=> ?_,fun i j qi vi qj vj b hne h1 h2 hb=> ?_,h.lt⟩
 ·have fin: ∀{v:Value} {s:List β},PL.Own B tE n cells w v s -> PL.Own B tE n cells {w with heap:=w.heap.setIfInBounds bm (b4r (b7h V k nilS))} v s:=fun hO=>hO.ext (G:=fun b=>b=bm) ⟨rfl,rfl,rfl,by simp,fun i hi hg=>by
   have:bm≠i:=fun e=>hg e.symm
   simp [this]⟩ fun b hb hg=>by
    have:=(hO.lt hb).1
    have:=h.lt
    omega
  rcases b67 h1 with h1 | ⟨e1,e2,e3⟩
  ·rcases b67 h2 with h2 | ⟨e1,e2,e3⟩
   ·exact fin (h.own j q v s h1 h2)
   ·have:=(qD.1 h1).1
    have:=c14 h.keys
    omega
  ·rcases b67 h2 with h2 | ⟨_,e2',e3'⟩
   ·have:=(qD.1 h2).1
    have:=c14 h.keys
    omega
   ·cases e2;cases e2'
    exact .inl ⟨rfl,rfl⟩
 ·rcases b67 h1 with h1 | ⟨e1,e2,e3⟩
  ·rcases b67 h2 with h2 | ⟨e1,e2,e3⟩
   ·exact h.dist i j qi vi qj vj b hne h1 h2 hb
   ·cases e2;intro hh;cases hh
  ·cases e2;cases hb
theorem GrpI.store (h:GrpI tE cells n bm B w V L) {w2:World} {j:Nat} {k:Int×Int} {v v1:Value} {s s1:List β} (hV:V[j]? =some (k,v)) (hL:L[j]? =some (k,s)) (hE:Ext (fun b=>v.ownBlock=some b) w w2)
  (hO:PL.Own B tE n cells w2 v1 s1) (hb: ∀b,v1.ownBlock=some b -> v.ownBlock=some b \/ w.heap.size <= b):GrpI tE cells n bm B {w2 with heap:=w2.heap.setIfInBounds bm (b4r (V.set j (k,v1)))} (V.set j (k,v1)) (L.set j (k,s1)):=by
 have hbm:=(qN.1 h.obj).1
 have hbm2:bm<w2.heap.size:=Nat.lt_of_lt_of_le hbm hE.size
 have hjV:=(qD.1 hV).1
 have hjL:=(qD.1 hL).1
 have hnb:v.ownBlock≠some bm:=fun e=>by
  have:=((h.own j k v s hV hL).lt e).1
  have:=h.lt
  omega
 have up: ∀{v:Value} {s:List β},PL.Own B tE n cells w2 v s -> PL.Own B tE n cells {w2 with heap:=w2.heap.setIfInBounds bm (b4r (V.set j (k,v1)))} v s:=fun hO=>hO.ext (G:=fun b=>b=bm) ⟨rfl,rfl,rfl,by simp,fun i hi hg=>by
   have:bm≠i:=fun e=>hg e.symm
   simp [this]⟩ fun b hb hg=>by
    have:=(hO.lt hb).1
    have:=h.lt
    omega
 have setV: ∀{α:Type} (X:List ((Int×Int)×α)) (x:(Int×Int)×α),X[j]? =some x -> ∀y:α,(X.set j (x.1,y)).map (·.1)=X.map (·.1):=fun X x hx y=>by
  rw [List.map_set]
  apply List.ext_getElem?
  intro i
  rw [List.getElem?_set]
  split
  ·rename_i e;subst e
   obtain ⟨h1,h2⟩:=qD.1 hx
   simp [h1,h2]
  ·rfl
 have key:=setV V (k,v) hV v1
 have key2:=setV L (k,s) hL s1
 refine ⟨by simp [hbm2],by rw [key,key2,h.keys],by rw [key];exact h.nd,fun i q u t h1 h2=> ?_,fun i i' qi vi qj vj b hne h1 h2 hvb=> ?_,h.lt⟩
 ·rw [List.getElem?_set] at h1 h2
  by_cases e:j=i
  ·subst e
   rw [if_pos rfl,if_pos hjV] at h1
   rw [if_pos rfl,if_pos hjL] at h2
   cases h1;cases h2
   exact up hO
  ·rw [if_neg e] at h1 h2
   exact up ((h.own i q u t h1 h2).ext hE fun b hb hg=>h.dist j i k v q u b e hV h1 hg hb)
 ·rw [List.getElem?_set] at h1 h2
  by_cases e:j=i
  ·subst e
   rw [if_pos rfl,if_pos hjV] at h1
   rw [if_neg hne] at h2
   cases h1
   rcases hb b hvb with hh | hh
   ·exact h.dist j i' k v qj vj b hne hV h2 hh
   ·intro hh2
    obtain ⟨t,ht⟩:=b8r h.keys h2
    have:=((h.own i' qj vj t h2 ht).lt hh2).2
    omega
  ·rw [if_neg e] at h1
   by_cases e':j=i'
   ·subst e'
    rw [if_pos rfl,if_pos hjV] at h2
    cases h2
    intro hh2
    rcases hb b hh2 with hh | hh
    ·exact h.dist i j qi vi k v b (Ne.symm e) h1 hV hvb hh
    ·obtain ⟨t,ht⟩:=b8r h.keys h1
     have:=((h.own i qi vi t h1 ht).lt hvb).2
     omega
   ·rw [if_neg e'] at h2
    exact h.dist i i' qi vi qj vj b hne h1 h2 hvb
theorem y9.val {o:Oper} {η:Operand -> Value} {w w':World} {v:Value} {K:Value -> World -> Prop} (hr:(execOp η o).run P w= .ok (.value v) w') (h:K v w'):y9 P o η w K:=by
 unfold y9;rw [hr];exact h
theorem y9.skip {o:Oper} {η:Operand -> Value} {w w':World} {K:Value -> World -> Prop} (hr:(execOp η o).run P w= .ok .skip w') (h:K undef w'):y9 P o η w K:=by
 unfold y9;rw [hr];exact h
theorem e3q {S:Int×Int -> Prop} {tM tK tS ty0 ty1 ty2 ty3 ty4:TypeId} {p0 p1 p2 p3 p4:String} {a0 a1 a2 a3 a4:Array Edge} {bytes tm tk tx te t0 t1 t2:Nat} {ρ:Nat -> Value} {k:Int×Int} {x:β} {xv:Value} {K:(Nat -> Value) -> World -> Prop}
  (hKS:KeyS P tK S) (htM:P.underlying tM=some (.map tK tS)) (htS:P.underlying tS=some (.slice tE)) (hz: ∀w,(zeroValue tS).run P w= .ok nilS w) (hi:(P.info? tE).map (fun i=>(i.zero.map (·.cells.size),i.size,i.bytes))=some (some n,n,bytes))
  (hn: ∀x,(cells x).length=n) (h1: ∀x,∀u∈cells x,u.oneCell'=true) (hpos:0<n) (hbpos:0<bytes)
  (hb: ∀p∈L,(p.2.length+1)*bytes <= 140737488355328) (hb1:bytes <= 140737488355328) (h:GrpI tE cells n bm B w V L) (hS: ∀p∈V,S p.1) (hSk:S k) (hB:B <= w.heap.size)
  (hm:ρ tm= .map (some bm)) (hk:ρ tk=kvv k) (hx:ρ tx=xv) (hxs:PL.Own 0 tE n cells w xv [x]) (hxb: ∀b,xv.ownBlock=some b -> b≠bm /\ ∀p∈V,p.2.ownBlock≠some b)
  (hne:te≠tm /\ te≠tx /\ te≠t0 /\ te≠t1 /\ t0≠tm /\ t0≠tx /\ t1≠tm /\ t2≠tm /\ t2≠t1)
  (hK: ∀ρ' w',GrpI tE cells n bm B w' (b7h V k nilS |>.set (ixK V k) (k,ρ' t1)) (e5n L k x) -> Ext (fun b=>b=bm \/ B <= b) w w' -> (∀t,t≠te -> t≠t0 -> t≠t1 -> t≠t2 -> ρ' t=ρ t) -> K ρ' w'):
  c10 P [⟨some te,.mapEntry tM (.tmp tm) (.tmp tk),ty0,p0,a0,none⟩,⟨some t0,.extract (.tmp te) 0,ty1,p1,a1,none⟩,⟨some t1,.call ⟨.builtin .append,#[.tmp t0,.tmp tx],#[tS,tS]⟩,ty2,p2,a2,none⟩,⟨some t2,.extract (.tmp te) 1,ty3,p3,a3,none⟩,⟨none,.entryStore tM (.tmp tm) (.tmp t2) (.tmp t1),ty4,p4,a4,none⟩] K ρ w:=by
 obtain ⟨n1,n2,n3,n4,n5,n6,n7,n8,n9⟩:=hne
 have hbm:=(qN.1 h.obj).1
 obtain ⟨v,hrun,hv⟩:=c8b (z:=nilS) hKS htM (hz w) h.obj h.nd hS hSk
 have h2:=h.ent k
 generalize hw1:({w with heap:=w.heap.setIfInBounds bm (b4r (b7h V k nilS))}:World)=w1 at*
 have hE1:Ext (fun b=>b=bm) w w1:=by
  rw [<- hw1]
  exact ⟨rfl,rfl,rfl,by simp,fun i hi hg=>by
   have:bm≠i:=fun e=>hg e.symm
   simp [this]⟩
 obtain ⟨s,hs⟩:=b8r h2.keys hv
 have hOv:=h2.own _ _ _ _ hv hs
 refine ⟨rfl,y9.val (v:= .tuple #[v,.int .i64 (ixK V k:Int)]) (w':=w1) (by simp [execOp,ev,hm,hk,hrun,Result.andThen]) ?_⟩
 refine ⟨rfl,y9.val (v:=v) (w':=w1) (by simp [execOp,ev,a9j,upd,Instr.extract,Result.andThen]) ?_⟩
 have hxs1:PL.Own 0 tE n cells w1 xv [x]:=hxs.ext hE1 fun b hb hg=>(hxb b hb).1 hg
 have hlen:s.length <= 0 \/ ∃p∈L,p.2=s:=by
  rcases b67 hs with hh | ⟨_,hh,_⟩
  ·exact .inr ⟨_,qE hh,rfl⟩
  ·cases hh;exact .inl (Nat.le_refl _)
 obtain ⟨v1,w2,hr,hO1,hE2,hfr⟩:=c5o (P:=P) (ty:=ty2) (v:=v) (x:=xv) hn h1 htS hi hpos hbpos hOv ⟨noG,hxs1.rep (hn:=hn) fun _ _ hh=>hh⟩ (by
  rcases hlen with hh | ⟨p,hp,hh⟩
  ·have:s.length=0:=by omega
   simp only [this,List.length_cons,List.length_nil];omega
  ·have:=hb p hp;rw [hh] at this;simpa using this) (Nat.le_trans hB hE1.size)
 refine ⟨rfl,y9.val (v:=v1) (w':=w2) (by simp [execOp,resolve,invoke,builtin,ev,a9j,upd,hx,n2.symm,n6.symm,hr]) ?_⟩
 refine ⟨rfl,y9.val (v:= .int .i64 (ixK V k:Int)) (w':=w2) (by simp [execOp,ev,a9j,upd,n3,n4,Instr.extract,Result.andThen]) ?_⟩
 have hobj2:w2.heap[bm]? =some (b4r (b7h V k nilS)):=(hE2.block bm (by have:=(qN.1 h2.obj).1;exact this) fun hg=>by
  have:=(hOv.lt hg).1
  have:=h.lt
  omega).trans h2.obj
 have hst:=c43 (P:=P) (t:=tM) (u:=v1) hobj2 hv
 refine ⟨rfl,y9.skip (w':={w2 with heap:=w2.heap.setIfInBounds bm (b4r ((b7h V k nilS).set (ixK V k) (k,v1)))}) (by simp [execOp,ev,a9j,upd,hm,n1.symm,n5.symm,n7.symm,n8.symm,n9.symm,hst,Result.andThen]) ?_⟩
 have hg:e5n L k x=(b7h L k []).set (ixK V k) (k,s++[x]):=by
  unfold e5n
  rw [<- c78 k h.keys,hs]
 refine hK _ _ ?_ ?_ ?_
 ·rw [hg]
  have:a9j (a9j (a9j (a9j (a9j ρ (some te) (.tuple #[v,.int .i64 (ixK V k:Int)])) (some t0) v) (some t1) v1) (some t2) (.int .i64 (ixK V k:Int))) none undef t1=v1:=by simp [a9j,upd,n9.symm]
  rw [this]
  exact h2.store hv hs hE2 hO1 hfr
 ·refine (hE1.mono fun b hb=> .inl hb).trans ((hE2.mono fun b hb=> .inr (hOv.lt hb).1).trans ?_)
  exact ⟨rfl,rfl,rfl,by simp,fun i hi hg=>by
   have:bm≠i:=fun e=>hg (.inl e.symm)
   simp [this]⟩
 ·intro t e1 e2 e3 e4
  simp [a9j,upd,e1,e2,e3,e4]
end
end Go.SX
namespace Go.SX
open Go Go.PL
section
variable {P:Program} {U:Uni}
theorem d77 (hU:UOK U) {f:FuncId} {fe:Fent U} (hS:Spec P f fe) {xs:Args U fe.s.ps} {b:fe.B} (hF:fe.F xs=some b) {w:World} (ht:U.tab w /\ ∀b,U.tb b -> b<w.heap.size) {us:List Value} (hl:us.length=fe.s.ps.length) (hm:(b1c fe.s.ps&&Nat.beq (npK fe.s.ps) fe.s.ps.length)=true) (is:List (List Nat)) (his: ∀i∈is,i=[])
  (hA: ∀Z':Nat -> Prop,(∀b,b<w.heap.size -> Z' b) -> ARs (⟨[],[],0⟩:U.St) (fun _=>undef) (cz Z' w) us fe.s.ps us xs is):
  Calls P f us.toArray w fun e w'=> ∃vs Z',e= .returned (f1h vs) /\ Ext noG w w' /\ RRs (cz Z' w') fe.s.rs (fe.wr b).1 vs:=by
 have h0:Rel (⟨w,noG,fun b=>b<w.heap.size,fun _=>False,fun _=>undef⟩:Env) (fun b=>b<w.heap.size) (fun _=>undef) (⟨[],[],0⟩:U.St) (fun _=>undef) w:=
  ⟨fun _=>trivial,fun _=>trivial,fun _ _ h=>h.elim,fun _ _ _ _ h=>h.elim,fun _ h=>h,fun _ h=> .inl h,fun _ h=>h,Ext.refl _ _,fun _ h=>h.elim,ht.1,fun b hb=>⟨ht.2 b hb,fun h=>h.elim⟩⟩
 have hap:b9x (is++[([]:List (Nat×U.MC)).map (·.1)])=true:=by
  clear hA
  induction is with
  | nil=>rfl
  | cons i r ih=>
    obtain rfl:=his i (by simp)
    show (true&&b9x (r++[[]]))=true
    rw [Bool.true_and]
    exact ih fun i hi=>his i (qJ _ hi)
 simp only [qB] at hm
 have htk:us.take (npK fe.s.ps)=us:=by rw [qC hm.2,<- hl,List.take_length]
 have h1:=d7w hU h0 (fz:=[]) (ps:=fe.s.ps) (us:=us) (xs:=xs) (is:=is) (ρc:=c0g us) (ρs:=c0g us) hm.1 (fun _ _=>rfl) (fun _ h=>by cases h) (fun Z' hz _=>hA Z' hz) hap (fun j v hv=>by simp [c0g,hv])
 have hS2:=hS xs b hF _ _ w us hl (by rw [htk];exact h1)
 rw [htk] at hS2
 refine hS2.mono fun e w' ⟨u,he,⟨Z',vs,ua,hu,_,_,hE,_,_,hR,_⟩⟩=>⟨vs,Z',by rw [he,hu],hE.mono fun b hb=> ?_,hR⟩
 obtain ⟨i,hi,id,hid,_⟩:=hb
 rw [his i hi] at hid
 cases hid
end
end Go.SX
namespace Go.SX
open Go Go.PL Go.ChangeShapes Go.WideShapes Go.Deep Go.RowKit
section
variable {P:Program} {U:Uni}
def RdQ (P:Program) (U:Uni) (t:TypeId) (c:U.C) (q:U.T c -> Prop):Prop:= ∀{H:Type} (enc:TypeId×Value -> H) (w:World) (base:Nat) (spare:Nat -> Bool) (held:Bool) (fuel:Nat) (cs:List Value) (r:DataW H×List MemPlace),DataW.trod enc P w base spare held fuel t cs=some r -> ∃x:U.T c,q x /\ (Rp c).rep noG w cs x
def RdT (P:Program) (U:Uni) (t:TypeId) (c:U.C):Prop:=RdQ P U t c fun _=>True
def RdA (P:Program) (U:Uni) (t:TypeId) (S:U.AV -> Prop):Prop:= ∀{H:Type} (enc:TypeId×Value -> H) (w:World) (base:Nat) (spare:Nat -> Bool) (held:Bool) (fuel:Nat) (cs:List Value) (r:DataW H×List MemPlace),DataW.trod enc P w base spare held fuel t cs=some r -> ∃a,S a /\ d7 Rp noG w a cs
def isI (k:IntKind) (a:U.AV):Prop:= ∃z,a= .int k z
def isB (a:U.AV):Prop:= ∃z,a= .bool z
theorem RdA.int {t:TypeId} {k:IntKind} (ht:P.underlying t=some (.int k)):RdA P U t (isI k):=by
 intro H enc w base spare held fuel cs r h
 obtain ⟨n,rfl,rfl,hw⟩:=DataW.trod_int ht h
 exact ⟨.int k n,⟨n,rfl⟩,rfl⟩
theorem RdA.bool {t:TypeId} (ht:P.underlying t=some .bool):RdA P U t isB:=by
 intro H enc w base spare held fuel cs r h
 obtain ⟨b,rfl,rfl⟩:=DataW.trod_bool ht h
 exact ⟨.bool b,⟨b,rfl⟩,rfl⟩
instance (c:U.C):Inhabited (Option (U.T c)):=⟨none⟩
theorem e9v {α:Type} {R:TyR α} {G:Nat -> Prop} {w:World} {v:Value} {l:List α} (h:j5 R G w v l):l.length <= 9223372036854775807:=by
 obtain ⟨a,cap,_,h1,h2⟩:=h.shape
 simp only [maxLen] at h2;omega
theorem e3p {t e:TypeId} {c:U.C} (hI:RdT P U e c) (hC:P.cellsOf e=U.n c) (hpos:0<U.n c) (ht:P.underlying t=some (.slice e)) {H:Type} {enc:TypeId×Value -> H} {w:World} {base:Nat} {spare:Nat -> Bool} {held:Bool} {fuel:Nat} {cs:List Value} {r:DataW H×List MemPlace} (h:DataW.trod enc P w base spare held fuel t cs=some r):
  ∃(v:Value) (l:List (U.T c)),cs=[v] /\ j5 (Rp c) noG w v l:=by
 rcases open_slice ht h with ⟨h1,_⟩ | ⟨a',len,cap,m,n',D,Pl,h1,hb,hl,hm,hmm,hx,hi⟩
 ·exact ⟨_,[],h1,.inl ⟨rfl,rfl⟩⟩
 ·have hlm:len <= m:=by rw [hmm];split<;>omega
  obtain ⟨X,hX⟩:=choose_lt (α:=Option (U.T c)) (n:=len) (p:=fun i x=> ∃y cs',x=some y /\ w.cells? base (a'.add (i*U.n c)) (U.n c)=some cs' /\ (Rp c).rep noG w cs' y) (fun i hil=>by
   obtain ⟨cs',h1,h2⟩:=hi i (by omega)
   obtain ⟨x,_,hxe⟩:=hI _ _ _ _ _ _ _ _ h2
   rw [hC] at h1
   exact ⟨some x,x,cs',rfl,h1,hxe⟩)
  have key: ∀k,k <= len -> ∃l:List (U.T c),l.length=k /\ ∀i x,l[i]? =some x -> ∃cs',w.cells? base (a'.add (i*U.n c)) (U.n c)=some cs' /\ (Rp c).rep noG w cs' x:=by
   intro k
   induction k with
   | zero=>intro _;exact ⟨[],rfl,fun i x hx=>by simp at hx⟩
   | succ k ih=>
     intro hk
     obtain ⟨l,h2,h3⟩:=ih (by omega)
     obtain ⟨y,cs',_,h4,h5⟩:=hX k (by omega)
     refine ⟨l++[y],by simp [h2],fun i x hx=> ?_⟩
     by_cases hik:i<k
     ·rw [List.getElem?_append_left (by omega)] at hx;exact h3 i x hx
     ·rw [List.getElem?_append_right (by omega)] at hx
      have h0:i=k:=by
       have:=(qD.1 hx).1
       simp at this;omega
      subst h0
      rw [h2,Nat.sub_self] at hx
      simp at hx
      subst hx
      exact ⟨cs',h4,h5⟩
  obtain ⟨l,h2,h3⟩:=key len (Nat.le_refl _)
  refine ⟨_,l,h1,.inr ⟨a',cap,by rw [h2],by omega,hm,fun i x hx=> ?_⟩⟩
  obtain ⟨cs',h4,h5⟩:=h3 i x hx
  obtain ⟨hcl0,hcl,hcs⟩:=World.cells?_some h4
  have hln:cs'.length=U.n c:=(Rp c).len h5
  refine ⟨cs',h5,?_,fun h=>h,fun j v hj=> ?_⟩
  ·have h0:=hcs 0 hpos
   have:cs'[0]? =some (cs'[0]'(by omega)):=qG _
   rw [this] at h0
   have:=e1n h0
   rwa [a1d,a1d] at this
  ·have hjn:j<U.n c:=by rw [<- hln];exact (qD.1 hj).1
   exact (hcs j hjn).trans hj
theorem RdT.one (hU:UOK U) {t:TypeId} {c:U.C} {S:U.AV -> Prop} (h:RdA P U t S) (hmk: ∀a,S a -> ∃x:U.T c,U.flds c x=[a]):RdT P U t c:=by
 intro H enc w base spare held fuel cs r hh
 obtain ⟨a,hS,hr⟩:=h enc w base spare held fuel cs r hh
 obtain ⟨x,hx⟩:=hmk a hS
 have:=c1p hU (c:=c) (x:=x) (css:=[cs]) (G:=noG) (w:=w) (by rw [hx];exact ⟨hr,trivial⟩)
 exact ⟨x,trivial,by simpa using this⟩
def szS (P:Program):List Field -> Nat
 | []=>0
 | f::fs=>P.cellsOf f.type+szS P fs
def f3i (P:Program):Nat -> List Field -> Bool
 | _,[]=>true
 | o,f::fs=>Nat.beq f.offset o&&f3i P (o+P.cellsOf f.type) fs
def RdL (P:Program) (U:Uni):List Field -> List (U.AV -> Prop) -> Prop
 | [],[]=>True
 | f::fs,S::Ss=>RdA P U f.type S /\ RdL P U fs Ss
 | _,_=>False
theorem RdQ.struct (hU:UOK U) {t:TypeId} {c:U.C} {q:U.T c -> Prop} {fs:Array Field} {Ss:List (U.AV -> Prop)} (ht:P.underlying t=some (.struct fs)) (ho:f3i P 0 fs.toList=true) (hsz:P.cellsOf t=szS P fs.toList)
  (hL:RdL P U fs.toList Ss) (hmk: ∀as,m7 (fun S a=>S a) Ss as -> ∃x:U.T c,q x /\ U.flds c x=as):RdQ P U t c q:=by
 intro H enc w base spare held fuel cs r h
 obtain ⟨xs,n,_,_,hl,hxl,hx⟩:=DataW.trod_struct ht h
 have key: ∀(l:List Field) (Ss:List (U.AV -> Prop)) (o:Nat),f3i P o l=true -> RdL P U l Ss -> o+szS P l=cs.length -> (∀f∈l,∃y,DataW.trod enc P w base spare held n f.type ((cs.drop f.offset).take (P.cellsOf f.type))=some y) ->
   ∃as css,m7 (fun S a=>S a) Ss as /\ m7 (d7 Rp noG w) as css /\ css.flatten=cs.drop o:=by
  intro l
  induction l with
  | nil=>
    intro Ss o _ hR hlen _
    cases Ss with
    | nil=>exact ⟨[],[],trivial,trivial,by simp only [szS] at hlen;simp;omega⟩
    | cons _ _=>exact hR.elim
  | cons f l ih=>
    intro Ss o ho hR hlen hy
    cases Ss with
    | nil=>exact hR.elim
    | cons S Ss=>
      simp only [f3i,qB] at ho
      have hfo:=qC ho.1
      simp only [szS] at hlen
      obtain ⟨as,css,g1,g2,g3⟩:=ih Ss (o+P.cellsOf f.type) ho.2 hR.2 (by omega) fun f' hf'=>hy f' (qJ _ hf')
      obtain ⟨y,hy1⟩:=hy f qI
      obtain ⟨a,hS,hr⟩:=hR.1 enc w base spare held n _ _ hy1
      refine ⟨a::as,_::css,⟨hS,g1⟩,⟨hr,g2⟩,?_⟩
      rw [List.flatten_cons,g3,hfo,<- List.drop_drop,List.take_append_drop]
 obtain ⟨as,css,g1,g2,g3⟩:=key fs.toList Ss 0 ho hL (by rw [hl,hsz];omega) fun f hf=>by
  obtain ⟨i,hi,hfi⟩:=List.mem_iff_getElem.1 hf
  have hi':i<fs.size:=by simpa using hi
  have h1:=hx i f (by rw [Array.getElem?_eq_getElem hi'];simpa using hfi)
  rw [qG (by omega)] at h1
  exact ⟨_,h1⟩
 obtain ⟨x,hq,hx⟩:=hmk as g1
 have h5:=c1p hU (c:=c) (x:=x) (css:=css) (G:=noG) (w:=w) (by rw [hx];exact g2)
 rw [g3] at h5
 exact ⟨x,hq,by simpa using h5⟩
theorem a5f {S:U.AV -> Prop} {Ss:List (U.AV -> Prop)} {zs:List U.AV} (h:m7 (fun S a=>S a) (S::Ss) zs): ∃a r,zs=a::r /\ S a /\ m7 (fun S a=>S a) Ss r:=by
 cases zs with
 | nil=>exact h.elim
 | cons a r=>exact ⟨a,r,rfl,h.1,h.2⟩
theorem e62 {zs:List U.AV} (h:m7 (fun S a=>S a) ([]:List (U.AV -> Prop)) zs):zs=[]:=by
 cases zs with
 | nil=>rfl
 | cons a r=>exact h.elim
def f1q (P:Program) (U:Uni):List TypeId -> List (U.AV -> Prop) -> Prop
 | [],[]=>True
 | t::ts,S::Ss=>RdA P U t S /\ f1q P U ts Ss
 | _,_=>False
theorem f1q.to: ∀(fs:List Field) (Ss:List (U.AV -> Prop)),f1q P U (fs.map (·.type)) Ss -> RdL P U fs Ss
 | [],[],_=>trivial
 | _::fs,_::Ss,h=>⟨h.1,f1q.to fs Ss h.2⟩
 | [],_::_,h=>h.elim
 | _::_,[],h=>h.elim
theorem RdQ.str (hU:UOK U) {t:TypeId} {c:U.C} {q:U.T c -> Prop} {fs:Array Field} {ts:List TypeId} {Ss:List (U.AV -> Prop)} (ht:P.underlying t=some (.struct fs)) (ho:f3i P 0 fs.toList=true) (hsz:P.cellsOf t=szS P fs.toList)
  (hts:fs.toList.map (·.type)=ts) (hL:f1q P U ts Ss) (hmk: ∀as,m7 (fun S a=>S a) Ss as -> ∃x:U.T c,q x /\ U.flds c x=as):RdQ P U t c q:=
 RdQ.struct hU ht ho hsz (f1q.to _ _ (by rw [hts];exact hL)) hmk
def RdP (P:Program) (U:Uni) (t:TypeId) (p:PK U.C) (q:p.T U -> Prop):Prop:= ∀{H:Type} (enc:TypeId×Value -> H) (w:World) (b0:Nat) (spare:Nat -> Bool) (held:Bool) (v:Value) (d:DataW H) (pl:List MemPlace),Value.okWide P w .any b0 t v -> DataW.Trod enc P w 0 spare held t v d pl ->
 ∃x:p.T U,q x /\ ∀(σ:U.St) (π:Nat -> Value) (all:List Value) (Z':Nat -> Prop),(∀b,b<w.heap.size -> Z' b) -> AR σ π (cz Z' w) all p v x []
theorem RdP.int {t:TypeId} {c:U.C} {k:IntKind} (ht:P.underlying t=some (.int k)) (hc: ∀z,∃x:U.T c,(inj c x:U.AV)= .int k z):RdP P U t (.v c) fun _=>True:=by
 intro H enc w b0 spare held v d pl ho hd
 obtain ⟨n,rfl,_⟩:=open_int ht ho hd
 obtain ⟨x,hx⟩:=hc n
 exact ⟨x,trivial,fun σ π all Z' hz=>⟨rfl,by rw [hx];rfl⟩⟩
theorem RdP.slice {t e:TypeId} {c:U.C} (ht:P.underlying t=some (.slice e)) (hI:RdT P U e c) (hC:P.cellsOf e=U.n c) (hpos:0<U.n c):RdP P U t (.ls c) fun l=>l.length <= 9223372036854775807:=by
 intro H enc w b0 spare held v d pl ho ⟨fuel,hd⟩
 obtain ⟨a,len,cap,rfl⟩:=okWide_slice ht ho
 obtain ⟨v',l,h1,h2⟩:=e3p hI hC hpos ht hd
 have h1:[Value.slice a len cap]=[v']:=h1
 cases h1
 exact ⟨l,e9v h2,fun σ π all Z' hz=>⟨rfl,h2.weaken fun b hb hg=>hg (hz b hb)⟩⟩
def d33 (P:Program) (U:Uni):List TypeId -> (ps:List (PK U.C)) -> (Args U ps -> Prop) -> Prop
 | [],[],q=>q ()
 | t::ts,p::ps,q=> ∃(q1:p.T U -> Prop) (q2:Args U ps -> Prop),RdP P U t p q1 /\ d33 P U ts ps q2 /\ ∀x xs,q1 x -> q2 xs -> q (x,xs)
 | _,_,_=>False
theorem d33.nil:d33 P U [] [] fun _=>True:=trivial
theorem d33.cons {t:TypeId} {ts:List TypeId} {p:PK U.C} {ps:List (PK U.C)} {q1:p.T U -> Prop} {q2:Args U ps -> Prop} (h1:RdP P U t p q1) (h2:d33 P U ts ps q2):d33 P U (t::ts) (p::ps) fun x=>q1 x.1 /\ q2 x.2:=⟨q1,q2,h1,h2,fun _ _ a b=>⟨a,b⟩⟩
theorem d8l {H:Type} (enc:TypeId×Value -> H) (w:World) (b0:Nat) (spare:Nat -> Bool) (held:Bool): ∀{ts:List TypeId} {ps:List (PK U.C)} {vs:List Value} {ds:List (DataW H)} {pl:List MemPlace} {q:Args U ps -> Prop},d33 P U ts ps q -> DataW.TrodAll enc P w 0 spare held ts vs ds pl ->
  (∀(j:Nat) t v,ts[j]? =some t -> vs[j]? =some v -> Value.okWide P w .any b0 t v) -> vs.length=ps.length /\ ∃xs:Args U ps,q xs /\ ∀(σ:U.St) (π:Nat -> Value) (all:List Value) (Z':Nat -> Prop),(∀b,b<w.heap.size -> Z' b) -> ARs σ π (cz Z' w) all ps vs xs (ps.map fun _=>[])
 | [],[],vs,ds,pl,q,hq,h,_=>by
   obtain ⟨rfl,rfl,rfl⟩:=trodAll_nil h
   exact ⟨rfl,(),hq,fun _ _ _ _ _=>trivial⟩
 | t::ts,p::ps,vs,ds,pl,q,⟨q1,q2,hR1,hR2,hq⟩,h,ho=>by
   obtain ⟨v,vs',d,ds',p1,q1,rfl,rfl,rfl,h1,h2⟩:=trodAll_cons h
   obtain ⟨x,k1,hx⟩:=hR1 enc w b0 spare held v d p1 (ho 0 t v rfl rfl) h1
   obtain ⟨hl,xs,k2,hxs⟩:=d8l enc w b0 spare held hR2 h2 fun j t v ht hv=>ho (j+1) t v ht hv
   exact ⟨by simp [hl],(x,xs),hq x xs k1 k2,fun σ π all Z' hz=>⟨hx σ π all Z' hz,hxs σ π all Z' hz⟩⟩
 | [],_::_,_,_,_,_,hR,_,_=>hR.elim
 | _::_,[],_,_,_,_,hR,_,_=>hR.elim
theorem b7i {H:Type} {enc:TypeId×Value -> H} (hl:laidOutB P=true) {W W':World} {sp:Nat -> Bool}: ∀{ts:List TypeId} {vs:List Value} {ds:List (DataW H)} {pl:List MemPlace},(∀t∈ts,P.readableRec t=true /\ t<P.types.size) -> DataW.TrodAll enc P W 0 (fun _=>true) true ts vs ds pl ->
  (∀p∈pl,W.sameAt W' p) -> (∀p∈pl,sp p.block=true) -> DataW.TrodAll enc P W' 0 sp true ts vs ds pl
 | [],vs,ds,pl,_,h,_,_=>by
   obtain ⟨rfl,rfl,rfl⟩:=trodAll_nil h
   exact trodAll_mk0
 | t::ts,vs,ds,pl,hr,h,h1,h2=>by
   obtain ⟨v,vs',d,ds',p1,q1,rfl,rfl,rfl,g1,g2⟩:=trodAll_cons h
   exact trodAll_cons_mk (WideElems.Trod_stays hl (hr t qI).1 (hr t qI).2 g1 (fun p hp=>h1 p (List.mem_append_left _ hp)) fun p hp=>h2 p (List.mem_append_left _ hp))
    (b7i hl (fun t ht=>hr t (qJ _ ht)) g2 (fun p hp=>h1 p (List.mem_append_right _ hp)) fun p hp=>h2 p (List.mem_append_right _ hp))
end
end Go.SX
namespace Go.RowKit
open Go Go.ChangeShapes Go.WideShapes
section
variable {H:Type} {enc:TypeId×Value -> H} {P:Program}
theorem c6h {f:Func} {s:ChangeSpec} {apart fresh handsOn again:Bool} {W W':World} {args:Array Value} {v:Value} {ds gs:List (DataW H)} {before pa pv:List MemPlace}
  (hW:DataW.Whole enc P f.params.toList s.vars apart W args.toList ds gs before)
  (hres: ∀(b:Nat) (sp:Nat -> Bool) (hd:Bool),DataW.TrodAll enc P W' b sp hd f.resultTypes.toList (v.resultList f.resultTypes.size) (s.fn H (ds++gs)).results [])
  (hargs: ∀sp:Nat -> Bool,(∀p∈before,sp p.block=true) -> DataW.TrodAll enc P W' 0 sp true f.params.toList args.toList (s.fn H (ds++gs)).args pa)
  (hvars: ∀sp:Nat -> Bool,(∀p∈before,sp p.block=true) -> DataW.TrodVars enc P W' sp s.vars (s.fn H (ds++gs)).vars pv)
  (hps:before=pa++pv) (hb:Below W.heap.size W W')
  (hok: ∀(j:Nat) (t:TypeId) (r:Value),f.resultTypes[j]? =some t -> (v.resultList f.resultTypes.size)[j]? =some r -> Value.okWide P W' .any 0 t r):
  s.post enc P f apart fresh handsOn again W args v W':=by
 have hlt: ∀p∈before,p.block<W.heap.size:=fun p hp=>hW.lt p hp
 have hold: ∀p∈before,(fun b=>decide (b<W.heap.size)) p.block=true:=fun p hp=>by simpa using hlt p hp
 refine ⟨ds,gs,before,[],pa,pv,hW,hres _ _ _,hargs _ hold,hvars _ hold,World.keptBut_mono (fun p hp=>⟨hp,?_⟩) (hb.frame (· ∈before)),fun _=> ?_⟩
 ·rw [hps,qK] at hp
  exact Or.inr hp
 ·obtain ⟨_,_,_,_,_,hz,hn⟩:=hW
  refine ⟨hok,_,_,([]++pa)++pv,⟨[]++pa,pv,trodAll_append (hargs _ (fun _ _=>rfl)) (hres _ _ _),hvars _ (fun _ _=>rfl),rfl,?_,?_⟩,?_⟩
  ·intro b off hp
   have hin:MemPlace.cell b off∈before:=by rw [hps];simpa using hp
   rw [hb.frozen (hlt _ hin)]
   exact hz b off hin
  ·intro ha
   have:=hn ha
   rw [hps] at this
   simpa using this
  ·intro p hp _
   rw [hps]
   simpa using hp
end
end Go.RowKit
namespace Go.SX
open Go Go.PL Go.ChangeShapes Go.WideShapes Go.Deep Go.RowKit
section
variable {P:Program} {U:Uni}
theorem e5a (hU:UOK U) {f:FuncId} {fe:Fent U} (hS:Spec P f fe) {b:fe.B} {q:Args U fe.s.ps -> Prop} (hF: ∀xs,q xs -> fe.F xs=some b) (hres: ∀(X:Cx) vs,RRs X fe.s.rs (fe.wr b).1 vs -> vs=[.bool true])
  {fn:Func} (hPs:d33 P U fn.params.toList fe.s.ps q) (hm:(b1c fe.s.ps&&Nat.beq (npK fe.s.ps) fe.s.ps.length)=true) (hl:laidOutB P=true) (hr: ∀t∈fn.params.toList,P.readableRec t=true /\ t<P.types.size)
  {tb:TypeId} (hb:fn.resultTypes= #[tb]) (hub:P.underlying tb=some .bool) {s:ChangeSpec} (hsv:s.vars=[])
  {H:Type} (hfn: ∀ds:List (DataW H),ds.length=fe.s.ps.length -> (s.fn H ds).results=[.lit (.bool true)] /\ (s.fn H ds).args=ds /\ (s.fn H ds).vars=[])
  (enc:TypeId×Value -> H) (W:World) (base:Nat) (args:Array Value) (ds gs:List (DataW H)) (before:List MemPlace)
  (ht:U.tab W /\ ∀b,U.tb b -> b<W.heap.size)
  (hval: ∀(j:Nat) t v,fn.params[j]? =some t -> args[j]? =some v -> Value.okWide P W .any base t v)
  (hW:DataW.Whole enc P fn.params.toList s.vars false W args.toList ds gs before):
  Calls P f args W fun e W'=> ∃v,e= .returned v /\ s.post enc P fn false true false false W args v W':=by
 have hW':=hW
 have hlt:=hW.lt
 obtain ⟨p,pq,hA0,hV,rfl,hfz,hnd⟩:=hW
 have hA:DataW.TrodAll enc P W 0 (fun _=>true) true fn.params.toList args.toList ds p:=hA0
 rw [hsv] at hV
 obtain ⟨rfl,rfl⟩:=trodVars_none hV
 obtain ⟨hlen,xs,hq,hxs⟩:=d8l enc W base (fun _=>true) true hPs hA fun j t v ht hv=>hval j t v (by simpa using ht) (by simpa using hv)
 have hdl:ds.length=fe.s.ps.length:=by
  rw [<- hlen]
  clear hxs hlen hW' hV hfz hnd hlt hval hA0
  generalize fn.params.toList=ts at hA
  generalize args.toList=vs at hA
  induction ts generalizing vs ds p with
  | nil=>obtain ⟨rfl,rfl,_⟩:=trodAll_nil hA;rfl
  | cons t ts ih=>
    obtain ⟨v,vs',d,ds',p1,q1,rfl,rfl,rfl,g1,g2⟩:=trodAll_cons hA
    simp [ih _ _ _ g2]
 simp only [List.append_nil] at hW' hlt
 have hC:=d77 hU hS (hF xs hq) (w:=W) ht (us:=args.toList) hlen hm (fe.s.ps.map fun _=>[]) (fun i hi=>by simp at hi;exact hi.2.symm▸rfl) fun Z' hz=>hxs _ _ _ Z' hz
 rw [show args.toList.toArray=args by simp] at hC
 refine hC.mono fun e W' ⟨vs,Z',he,hE,hR⟩=> ?_
 have hv:=hres _ _ hR
 subst hv
 obtain ⟨f1,f2,f3⟩:=hfn ds hdl
 refine ⟨.bool true,he,c6h (pa:=p) (pv:=[]) hW' (fun b' sp hd=> ?_) (fun sp hsp=> ?_) (fun sp hsp=> ?_) (by simp) hE.below (ok_one hb rfl (okWide_bool_mk hub _))⟩
 ·rw [List.append_nil,f1,hb]
  exact trodAll_cons_mk (shut_bool hub _) trodAll_mk0
 ·rw [List.append_nil,f2]
  exact b7i hl hr hA (fun x hx=>hE.below.same (hlt x hx)) fun x hx=>hsp x hx
 ·rw [List.append_nil,f3,hsv]
  rfl
end
noncomputable def laidWorld (P:Program) (os:Os):World:=World.holding P os ⟨#[],#[],[]⟩
end Go.SX
