/- Texts of the proof, joined. -/
import Derived.Test.YtmhkcgdchdkjcaaGreatDoorP3
import Derived.RangeFuncNested
import Derived.RangeFuncBox
import Derived.Shelf.Strconv.Itoa3
import Derived.Lib.LaidTab
import Derived.Laws.BitsLemmas
import Derived.Laws.Bits64
import Derived.KernelRfl
set_option linter.unusedVariables false
set_option linter.unusedSimpArgs false
set_option maxRecDepth 100000
namespace Go.PL
open Go Go.RowKit
structure StillR (B:Nat) (I:World -> Prop):Prop where
 al: ∀W o,I W -> I (W.alloc o)
 pu: ∀W l o o',B <= l -> W.heap[l]? =some o -> o.isCells=false -> I W -> I (W.putObj l o')
def g30 (B:Nat) (Kp:World -> World -> Prop) (I':World -> Prop) (Ix:Code -> World -> Prop) (W:World):Exit -> Act -> World -> Prop
 | .normal,_,W'=>KeepsFrom B W W' /\ Kp W W' /\ I' W'
 | .ret,_,W'=>KeepsFrom B W W' /\ Ix .ret W'
 | .exit id,_,W'=>KeepsFrom B W W' /\ Ix (.exit id) W'
 | .goto t,_,W'=>KeepsFrom B W W' /\ Ix (.goto t) W'
 | _,_,_=>False
theorem f2o {W:World} {l:Nat} {r:Loop} (h:W.heap[l]? =some (.loop r)):l<W.heap.size:=(Array.getElem?_eq_some_iff.1 h).1
theorem f7f {n:Nat} {P:Program} {g:Operand} {ps:Array Tmp} {assign body:Code} {Q:Exit -> Act -> World -> Prop} {a:Act} {w:World} {F:Fence}
  (hro:F.round=none) (hn:1 <= n) {gf:Nat} {lb:Array Value} (hg:a.eval g= .func (.func gf) #[] lb) (hF:F.fn gf) (eg: ∀args w,(callFunc gf args).run P w= .ok (.enter gf args) w)
  (enc:Nat -> Array Value) (len:Nat) (Kp:World -> World -> Prop)
  (hit: ∀(l:Nat) (J Jx:Nat -> World -> Prop) (W:World),Below w.heap.size w W ->
   (∀k W1,J k W1 -> k<len -> YieldAt F (n-1-1) P l (enc k) W1 fun e W'=>(e= .returned (.bool true) /\ J (k+1) W' /\ Kp W1 W') \/ (e= .returned (.bool false) /\ Jx (k+1) W')) ->
   J 0 W -> CallsIn F (n-1) P gf (#[.func (.yield l) #[] #[]]++lb) W fun e W'=>(∃v,e= .returned v) /\ (J len W' \/ ∃k,k <= len /\ Jx k W'))
  (hKt: ∀A B C,Kp A B -> Kp B C -> Kp A C) (hKp: ∀(W:World) (l:Nat) (o o':Obj),w.heap.size <= l -> W.heap[l]? =some o -> o.isCells=false -> o.isWalk=false -> Kp W (W.putObj l o')) (hps: ∀k,(enc k).size=ps.size)
  (I:Nat -> World -> Prop) (Ix:Nat -> Code -> World -> Prop) (Ax:Nat -> Act -> World -> Prop)
  (cI: ∀k,StillR w.heap.size (I k)) (cX: ∀k c,StillR w.heap.size (Ix k c)) (cA: ∀k a',StillR w.heap.size (Ax k a')) (h0:I 0 w)
  (hass: ∀(l k:Nat) (W:World) (K:Act -> World -> Prop),I k W -> (∀a' W',KeepsFrom w.heap.size W W' -> Kp W W' -> I k W' -> Ax k a' W' -> K a' W') ->
   assign.wpIn (F.inRound l) (n-1-1) P (Exit.then K (fun _ _ _=>False)) {tmps:=(ps.zip (enc k)).foldl (fun t (p,v)=>t.setIfInBounds p v) a.tmps,defers:=[]} W)
  (hbody: ∀(l k:Nat) (a':Act) (W:World),I k W -> Ax k a' W -> k<len -> body.wpIn (F.inRound l) (n-1-1) P (g30 w.heap.size Kp (I (k+1)) (Ix (k+1)) W) a' W)
  (hdone: ∀(D:Nat) (W:World),w.heap.size <= D -> I len W -> W.heap[D]? =some (.deferred (some [])) -> Q .normal {a with defers:={target:= .collected D,args:= #[]}::a.defers} W)
  (hstop: ∀(D k:Nat) (c:Code) (W:World),w.heap.size <= D -> k <= len -> Ix k c W -> W.heap[D]? =some (.deferred (some [])) -> c.wpIn F n P Q {a with defers:={target:= .collected D,args:= #[]}::a.defers} W):
  (Code.rangeFunc g ps assign body).wpIn F n P Q a w:=by
 have b1:Below w.heap.size w (w.alloc (.deferred (some []))):=(Below.refl _ w).alloc (Nat.le_refl _) _
 refine wpIn_rangeFunc fun fn hfn=> ?_
 let R:LoopState -> Option Code -> Loop:=fun s j=>{state:=s,pending:=j,fn,tmps:=a.tmps,params:=ps,assign,body,defers:=w.heap.size}
 let V:=(w.alloc (.deferred (some []))).alloc (.loop (R .ready none))
 have vD:V.heap[w.heap.size]? =some (.deferred (some [])):=(Below.heap_alloc _ _ _ (by simp)).trans (World.alloc_heap_new w _)
 have vL:V.heap[w.heap.size+1]? =some (.loop (R .ready none)):=by
  have:=World.alloc_heap_new (w.alloc (.deferred (some []))) (.loop (R .ready none));rwa [World.size_alloc] at this
 have vI:I 0 V:=(cI 0).al _ _ ((cI 0).al _ _ h0)
 have vB:Below w.heap.size w V:=b1.alloc (by simp) _
 have henter:(Instr.enterLoop fn a.tmps ps assign body F.round).run P w= .ok (w.heap.size+1,[{target:= .collected w.heap.size,args:= #[]}]) V:=by rw [hro];exact run_enterLoop_outer _ _ _ _ _
 have hres:(resolve a.eval (rangeCall g (w.heap.size+1)) 0).run P V= .ok {target:= .fn (.func gf) lb,args:= #[.func (.yield (w.heap.size+1)) #[] #[]]} V:=by
  simp only [resolve,hg]
  simp [go_sem]
 refine ⟨_,_,V,_,V,gf,#[.func (.yield (w.heap.size+1)) #[] #[]]++lb,V,henter,hres,?_,?_,fun _=>hn,?_⟩
 ·intro f' hf';simp [Target.leads] at hf';subst hf';exact hF
 ·simp [invoke,go_sem,eg]
 let Bk (s:LoopState) (j:Option Code) (W:World):Prop:=W.heap[w.heap.size+1]? =some (.loop (R s j)) /\ W.heap[w.heap.size]? =some (.deferred (some []))
 have kd: ∀{s j W} (s':LoopState) (j':Option Code),Bk s j W -> Bk s' j' (W.putObj (w.heap.size+1) (.loop (R s' j'))):=fun _ _ h=>
  ⟨World.putObj_heap_same (f2o h.1),(World.putObj_heap_other (by omega)).trans h.2⟩
 have kf: ∀{s j W W'},KeepsFrom w.heap.size W W' -> Bk s j W -> Bk s j W':=fun hk h=>⟨hk.same _ _ (by omega) h.1 rfl,hk.same _ _ (Nat.le_refl _) h.2 rfl⟩
 refine (hit (w.heap.size+1) (fun k W=>I k W /\ Bk .ready none W) (fun k W=> ∃c,Ix k c W /\ Bk .done (some c) W) V vB ?_ ⟨vI,vL,vD⟩).mono ?_
 ·intro k W ⟨hi,hb⟩ hk
  refine ⟨fn,_,assign,body,run_yield (P:=P) (args:=enc k) hb.1 (hps k),roundIn_of_wpIn hfn (hass _ k W _ hi fun a' W' hkf hkp hi' ha'=> ?_)⟩
  have hb':=kf hkf hb
  refine ⟨_,run_beginRound hb'.1 rfl,?_⟩
  have hb2:Bk .busy none (W'.putObj (w.heap.size+1) (.loop (R .busy none))):=kd _ _ hb'
  refine wpIn_mono (hbody _ k a' _ ((cI k).pu _ _ _ _ (by omega) hb'.1 rfl hi') ((cA k a').pu _ _ _ _ (by omega) hb'.1 rfl ha') hk) fun e a3 W3 hp=> ?_
  have fin: ∀(j:Option Code),KeepsFrom w.heap.size (W'.putObj (w.heap.size+1) (.loop (R .busy none))) W3 ->
    (Instr.endRound (w.heap.size+1) j).run P W3= .ok (.bool j.isNone) (W3.putObj (w.heap.size+1) (.loop (R (if j.isNone then .ready else .done) j))) /\ Bk .busy none W3:=fun j hk3=>⟨run_endRound (P:=P) j (kf hk3 hb2).1,kf hk3 hb2⟩
  have out: ∀(c:Code),KeepsFrom w.heap.size (W'.putObj (w.heap.size+1) (.loop (R .busy none))) W3 -> Ix (k+1) c W3 ->
    ∃v W4,(Instr.endRound (w.heap.size+1) (some c)).run P W3= .ok v W4 /\ ((Ending.returned v= .returned (.bool true) /\ (I (k+1) W4 /\ Bk .ready none W4) /\ Kp W W4) \/ (Ending.returned v= .returned (.bool false) /\ ∃c,Ix (k+1) c W4 /\ Bk .done (some c) W4)):=fun c hk3 hx=>by
   obtain ⟨hr,hb3⟩:=fin (some c) hk3
   exact ⟨_,_,hr,.inr ⟨rfl,c,(cX _ c).pu _ _ _ _ (by omega) hb3.1 rfl hx,kd _ _ hb3⟩⟩
  cases e with
  | normal=>
    obtain ⟨hk3,hkp3,hi3⟩:=hp
    obtain ⟨hr,hb3⟩:=fin none hk3
    exact ⟨_,_,hr,.inl ⟨rfl,⟨(cI _).pu _ _ _ _ (by omega) hb3.1 rfl hi3,kd _ _ hb3⟩,hKt _ _ _ hkp (hKt _ _ _ (hKp _ _ _ _ (by omega) hb'.1 rfl rfl) (hKt _ _ _ hkp3 (hKp _ _ _ _ (by omega) hb3.1 rfl rfl)))⟩⟩
  | ret=>exact out .ret hp.1 hp.2
  | exit id=>exact out (.exit id) hp.1 hp.2
  | goto t=>exact out (.goto t) hp.1 hp.2
  | panic ch=>exact hp.elim
  | outgrown=>exact hp.elim
 ·rintro e W2 ⟨⟨v,rfl⟩,⟨hi,hb⟩ | ⟨k,hk,c,hi,hb⟩⟩
  ·exact ⟨none,_,run_endLoop (P:=P) hb.1 (by simp [R]),hdone _ _ (Nat.le_refl _) ((cI _).pu _ _ _ _ (by omega) hb.1 rfl hi) ((World.putObj_heap_other (by omega)).trans hb.2)⟩
  ·exact ⟨some c,_,run_endLoop (P:=P) hb.1 (by simp [R]),hstop _ k c _ (Nat.le_refl _) hk ((cX _ c).pu _ _ _ _ (by omega) hb.1 rfl hi) ((World.putObj_heap_other (by omega)).trans hb.2)⟩
theorem a7o {B Bx:Nat} {t:TypeId} {v:Value}:StillR B (fun W=>Boxed W Bx t v):=
 ⟨fun W o h=>h.alloc o,fun W l o o' _ hl ho h=>Own.putObj (I:=fun (_:Unit) W=>Boxed W Bx t v) (boxed_own Bx t fun _=>v) (s:=()) o' h hl ho⟩
theorem c7o {B n₀:Nat} {w0:World} (h1:n₀ <= w0.heap.size) (h2:n₀ <= B):StillR B (fun W=>Below n₀ w0 W /\ w0.drawn <= W.drawn):=
 ⟨fun W o h=>⟨h.1.alloc (Nat.le_trans h1 h.1.size) o,h.2⟩,fun W l o o' hB hl ho h=>⟨h.1.trans ⟨rfl,rfl,rfl,by simp,fun k hk=>World.putObj_heap_other (by omega)⟩,h.2⟩⟩
theorem c1j {B:Nat} {p:Prop}:StillR B (fun _=>p):=⟨fun _ _ h=>h,fun _ _ _ _ _ _ _ h=>h⟩
theorem StillR.and {B:Nat} {I J:World -> Prop} (h:StillR B I) (k:StillR B J):StillR B (fun W=>I W /\ J W):=
 ⟨fun W o hh=>⟨h.al _ _ hh.1,k.al _ _ hh.2⟩,fun W l o o' hB hl ho hh=>⟨h.pu _ _ _ _ hB hl ho hh.1,k.pu _ _ _ _ hB hl ho hh.2⟩⟩
theorem StillR.ex {α:Type} {B:Nat} {I:α -> World -> Prop} (h: ∀x,StillR B (I x)):StillR B (fun W=> ∃x,I x W):=
 ⟨fun W o ⟨x,hh⟩=>⟨x,(h x).al _ _ hh⟩,fun W l o o' hB hl ho ⟨x,hh⟩=>⟨x,(h x).pu _ _ _ _ hB hl ho hh⟩⟩
theorem Boxed.ex {w w1:World} {B:Nat} {t:TypeId} {v:Value} (hE:Ext noG w w1) (h:Boxed w B t v):Boxed w1 B t v:=(hE.block B h.lt (fun h=>h)).trans h
def d4m (B o:Nat) (v:Value) (W:World):Prop:=W.cell? ⟨B,o,none⟩=some v /\ ∃x:Obj,W.heap[B]? =some x /\ x.isCells=true
theorem d4m.of {B:Nat} {W W':World} (hb:W'.heap[B]? =W.heap[B]?) {o:Nat} {v:Value} (h:d4m B o v W):d4m B o v W':=
 ⟨by have:=h.1;unfold World.cell? at this ⊢; rwa [hb],by rw [hb];exact h.2⟩
theorem c6c {n B o:Nat} {v:Value}:StillR n (d4m B o v):=
 ⟨fun W x h=>h.of (by obtain ⟨_,y,hy,_⟩:=h;exact Below.heap_alloc _ _ _ (Array.getElem?_eq_some_iff.1 hy).1),fun W l x x' _ hl hx h=>h.of (World.putObj_heap_other fun e=>by
  obtain ⟨_,y,hy,hc⟩:=h
  rw [<- e,hy] at hl
  cases hl
  rw [hx] at hc;cases hc)⟩
theorem d82 {n m:Nat}:StillR n (fun W=>m <= W.heap.size):=⟨fun W o h=>by simp;omega,fun W l o o' _ _ _ h=>by simpa using h⟩
theorem d35 (W:World) (cs:Array Value) (t:TypeId) {o:Nat} {v:Value} (h:cs[o]? =some v):d4m W.heap.size o v (W.alloc (.cells cs t)):=
 ⟨by unfold World.cell?; rw [World.alloc_heap_new];exact h,_,World.alloc_heap_new W _,rfl⟩
end Go.PL
namespace Go.PL
open Go
def a8a:Nat -> Nat -> List UInt8
 | 0,u=>[UInt8.ofNat (48+u)]
 | k+1,u=>if u<10 then [UInt8.ofNat (48+u)] else a8a k (u/10)++[UInt8.ofNat (48+u%10)]
theorem e3z: ∀(k u:Nat),u<10^(k+1) -> a8a k u=Lib.decDigits u
 | 0,u,h=>by rw [Lib.decDigits,dif_pos (by simpa using h)];rfl
 | k+1,u,h=>by
   rw [Lib.decDigits]
   unfold a8a
   by_cases hu:u<10
   ·rw [if_pos hu,dif_pos hu]
   ·rw [if_neg hu,dif_neg hu,e3z k (u/10) (by rw [Nat.pow_succ] at h;omega)]
def strconv_Itoa (a0:Int):Option ByteArray:=if 0 <= a0 /\ a0 <= 9223372036854775807 then some ⟨(a8a 20 a0.toNat).toArray⟩ else none
end Go.PL
namespace Go.SX
open Go Go.PL Go.Proofs Go.Shelf
theorem e7z {P:Program} {nm:String} {k:IntKind} {zs:List Int} {g:Nat} (hg:P.globalNamed nm=some g) {w w':World} (h:Lib.TabIs P w nm k zs) (hb:w'.heap[g]? =w.heap[g]?):Lib.TabIs P w' nm k zs:=by
 unfold Lib.TabIs World.var? at*
 rw [hg] at*
 simpa [hb] using h
theorem f6y {P:Program} {nm:String} {k:IntKind} {zs:List Int} {g:Nat} (hg:P.globalNamed nm=some g) {w:World} (h:Lib.TabIs P w nm k zs):g<w.heap.size:=by
 unfold Lib.TabIs World.var? at h
 rw [hg] at h
 cases hh:w.heap[g]? with
 | none=>simp [hh] at h
 | some o=>exact (Array.getElem?_eq_some_iff.1 hh).1
theorem e91 (G:Nat -> Prop) (w:World) (k:Nat) (os:Array Obj):Ext G w (Sort.grow (w.drewN k) os):=
 ⟨rfl,rfl,rfl,by simp [Sort.grow,World.drewN],fun b hb _=>by simp [Sort.grow,World.drewN,Array.getElem?_append_left hb],by simp [Sort.grow,World.drewN]⟩
section
variable {P:Program} {U:Uni}
theorem e59 {ρ:Ren} (L:LaysM.n171 P ρ) (ht: ∀w,U.tab w -> Lib.TabIs P w "internal/strconv.uint64pow10" .u64 Lib.pow10Tab) {a c:U.C} (fa:U.T a -> Int) (ha: ∀x,(inj a x:U.AV)= .int .i64 (fa x)) (fc:ByteArray -> U.T c) (hc: ∀s,(inj c (fc s):U.AV)= .str s):
  Spec P (ρ.f 171) (⟨⟨[.v a],[.v c]⟩,ByteArray,fun x=>strconv_Itoa (fa x.1),fun b=>((fc b,()),()),none⟩:Fent U):=by
 intro xs r hr Z G w us hl hR
 match us,hl with
 | [u1],_=>
   have s0:AVR _ (inj a xs.1) u1:=hR.slot 0
   rw [ha] at s0
   have s0:u1= .int .i64 (fa xs.1):=s0
   have hr:strconv_Itoa (fa xs.1)=some r:=hr
   unfold strconv_Itoa at hr
   split at hr
   ·rename_i hb
    have hr:=(Option.some.inj hr).symm
    have e:Lib.itoa (fa xs.1)=a8a 20 (fa xs.1).toNat:=by
     unfold Lib.itoa
     rw [if_neg (by omega),e3z 20 _ (by omega)]
    have hC:=Any.strconv_Itoa L (fa xs.1) (by omega) hb.2 w (ht w hR.tab.1)
    subst s0
    show Calls P (ρ.f 171) #[Value.int .i64 (fa xs.1)] w _
    refine hC.mono ?_
    rintro e' w' ⟨he,k,os,hw⟩
    subst hw
    refine ⟨_,he,⟨Z,[_],[.int .i64 (fa xs.1)],rfl,fun _ h=>h,fun _ h=> .inl h,e91 _ _ _ _,rfl,fun _ _ _ _=>rfl,⟨?_,trivial⟩,trivial,?_,?_⟩⟩
    ·show a3j _ (inj c (fc r)) _
     rw [hc,hr,<- e];rfl
    ·intro v hv;cases hv
    ·intro i j v v' b _ hv;cases hv
   ·cases hr
end
end Go.SX
namespace Go.PL
open Go Go.SX
structure Span where
 From:Int
 To:Int
structure api_Fact where
 Issuer:Int
 Number:Int
 Version:Int
 Withdrawn:Bool
 Person:Int
 Kind:Int
 State:Int
 Span:Span
 Seat:Int
 Share:Int
 Currency:Int
 Amount:Int
 Ref:Int
structure pensionhand_Fact where
 Issuer:Int
 Number:Int
 Version:Int
 Withdrawn:Bool
 Person:Int
 Kind:Int
 State:Int
 Seat:Int
 From:Int
 Length:Int
 Share:Int
 Amount:Int
 Ref:Int
structure Token where
 Kind:Int
 Text:ByteArray
 At:Int
structure pensionref5_reader where
 l:List Token
 at_:Int
 end_:Int
 bad:Bool
structure pensionref1_wide where
 hi:Int
 lo:Int
structure Fraction where
 Num:Int
 Den:Int
structure Expr where
 Op:Int
 Value:Fraction
 Dim:Int
 Name:ByteArray
 Args:List Expr
structure Rounding where
 Mode:Int
 Unit:Int
structure Credit where
 Kind:Int
 Limit:Int
structure Index where
 Year:Int
 Factor:Fraction
structure Let where
 Name:ByteArray
 Body:Expr
structure Grant where
 Benefit:Int
 If:Expr
 Pay:Expr
structure Reduce where
 Benefit:Int
 By:Expr
structure Version where
 From:Int
 Rounding:Rounding
 Credits:List Credit
 Series:List Index
 Lets:List Let
 Grants:List Grant
 Reduces:List Reduce
structure Statute where
 Name:ByteArray
 Currency:Int
 Versions:List Version
structure State where
 State:Int
 Statute:Statute
structure Rules where
 From:Int
 MinDays:Int
 PostingLimit:Int
 Substantial:Int
 Members:List Int
structure Rate where
 Currency:Int
 Month:Int
 Value:Fraction
structure Laws where
 States:List State
 Treaty:List Rules
 Rates:List Rate
structure pensionhand_Claim where
 Issuer:Int
 Number:Int
 Person:Int
 Benefit:Int
 Ref:Int
 Day:Int
structure Claim where
 Issuer:Int
 Number:Int
 Person:Int
 Benefit:Int
 Ref:Int
 Day:Int
structure pensionlaw26_Seeds where
 Laws:List Int
 Lives:List Int
 Facts:List pensionhand_Fact
 Claims:List pensionhand_Claim
 Day:Int
structure decision_file where
 x:Laws
 facts:List api_Fact
 own:List api_Fact
 claims:List Claim
 person:Int
structure syntax_entry where
 name:ByteArray
 number:Int
structure Binding where
 Name:ByteArray
 Dim:Int
structure Gross where
 State:Int
 Benefit:Int
 Currency:Int
 Independent:Int
 ProRata:Int
 Cut:Fraction
structure Value where
 Dim:Int
 Yes:Bool
 Num:Fraction
structure Step where
 Name:ByteArray
 Value:Value
structure Award where
 State:Int
 Benefit:Int
 Day:Int
 Code:Int
 Few:Bool
 Independent:Int
 Theoretical:Int
 ProRata:Int
 Num:Int
 Den:Int
 Amount:Int
 Steps:List Step
structure Heir where
 Person:Int
 Kind:Int
 Days:Int
structure decision_item where
 gross:Gross
 award:Award
 heirs:List Heir
 at_:Int
structure Deduction where
 By:Int
 From:Int
 Amount:Int
structure Net where
 State:Int
 Benefit:Int
 Currency:Int
 Independent:Int
 ProRata:Int
 Deducted:Int
 Amount:Int
structure FamilyPay where
 State:Int
 Currency:Int
 Amount:Int
 Primary:Bool
def a1v:ByteArray:=⟨#[]⟩
def a91:ByteArray:=⟨#[83,80,84,72,67,65]⟩
def a5j:ByteArray:=⟨#[83,80,72,67,65]⟩
def b89:ByteArray:=⟨#[83,80,84]⟩
def a7a:ByteArray:=⟨#[83,80]⟩
def b4l:ByteArray:=⟨#[83,80,67,65]⟩
def b7z:ByteArray:=⟨#[83,80,82]⟩
def b74:ByteArray:=⟨#[80]⟩
def c3e:ByteArray:=⟨#[80,82]⟩
def a4e:ByteArray:=⟨#[48,49,50,51,52,53,54,55,56,57]⟩
def a9m:ByteArray:=⟨#[46]⟩
def b44:ByteArray:=⟨#[102,114,111,109,32,64]⟩
def a9k:ByteArray:=⟨#[32,123,32,114,111,117,110,100,32]⟩
def b57:ByteArray:=⟨#[100,111,119,110,32,49,59,32]⟩
def b9c:ByteArray:=⟨#[99,114,101,100,105,116,32,118,111,108,117,110,116,97,114,121,59,32,99,114,101,100,105,116,32,117,110,101,109,112,108,111,121,101,100,32,108,105,109,105,116,32]⟩
def a45:ByteArray:=⟨#[59,32]⟩
def b9j:ByteArray:=⟨#[99,114,101,100,105,116,32,99,104,105,108,100,32,108,105,109,105,116,32]⟩
def b9k:ByteArray:=⟨#[99,114,101,100,105,116,32,114,101,115,105,100,101,110,99,101,59,32]⟩
def c07:ByteArray:=⟨#[105,110,100,101,120,32,49,57,54,48,32,49,59,32,105,110,100,101,120,32,49,57,56,48,32]⟩
def b9d:ByteArray:=⟨#[59,32,105,110,100,101,120,32,49,57,57,53,32]⟩
def b9w:ByteArray:=⟨#[108,101,116,32,115,112,101,110,116,32,61,32,105,110,115,117,114,101,100,32,47,32]⟩
def b98:ByteArray:=⟨#[100,59,32,108,101,116,32,112,97,114,116,32,61,32,109,105,110,40,115,112,101,110,116,32,42,32]⟩
def b9y:ByteArray:=⟨#[44,32,48,46,56,48,41,59,32]⟩
def b94:ByteArray:=⟨#[103,114,97,110,116,32,111,108,100,32,105,102,32,97,103,101,32,62,61,32]⟩
def c02:ByteArray:=⟨#[32,97,110,100,32,105,110,115,117,114,101,100,32,62,61,32]⟩
def c04:ByteArray:=⟨#[100,32,112,97,121,32,109,97,120,40,98,97,115,101,32,42,32,112,97,114,116,44,32]⟩
def b7h:ByteArray:=⟨#[109,41,59,32]⟩
def b9g:ByteArray:=⟨#[103,114,97,110,116,32,100,105,115,97,98,105,108,105,116,121,32,105,102,32,105,110,115,117,114,101,100,32,62,61,32]⟩
def c08:ByteArray:=⟨#[100,32,112,97,121,32,98,97,115,101,32,42,32]⟩
def b96:ByteArray:=⟨#[103,114,97,110,116,32,115,117,114,118,105,118,111,114,32,105,102,32,119,111,114,107,101,100,32,43,32,101,113,117,97,116,101,100,32,62,61,32,51,48,100,32,112,97,121,32,98,97,115,101,32,42,32,112,97,114,116,32,42,32,48,46,54,48,59,32]⟩
def b9l:ByteArray:=⟨#[103,114,97,110,116,32,102,97,109,105,108,121,32,105,102,32,105,110,115,117,114,101,100,32,62,61,32]⟩
def c2f:ByteArray:=⟨#[100,32,112,97,121,32]⟩
def b93:ByteArray:=⟨#[109,32,42,32,99,104,105,108,100,114,101,110,59,32]⟩
def c05:ByteArray:=⟨#[103,114,97,110,116,32,115,105,99,107,110,101,115,115,32,105,102,32,105,110,115,117,114,101,100,32,62,61,32]⟩
def b9r:ByteArray:=⟨#[100,32,112,97,121,32,98,101,115,116,40,51,41,32,47,32,49,50,32,42,32,48,46,55,48,59,32]⟩
def a9v:ByteArray:=⟨#[114,101,100,117,99,101,32,111,108,100,32,98,121,32]⟩
def b6f:ByteArray:=⟨#[114,101,100,117,99,101,32,100,105,115,97,98,105,108,105,116,121,32,98,121,32,105,102,32,97,103,101,32,60,32,54,48,32,116,104,101,110,32,48,46,53,48,32,101,108,115,101,32,49,59,32]⟩
def b14:ByteArray:=⟨#[125,32]⟩
def b4t:ByteArray:=⟨#[104,97,108,102,32,53,59,32]⟩
def b87:ByteArray:=⟨#[117,112,32,49,59,32]⟩
def b3c:ByteArray:=⟨#[101,118,101,110,32,49,48,59,32]⟩
def b61:ByteArray:=⟨#[97,108,98,97]⟩
def b6h:ByteArray:=⟨#[98,111,114,97]⟩
def b32:ByteArray:=⟨#[99,101,100,97,114]⟩
def b4o:ByteArray:=⟨#[115,116,97,116,117,116,101,32]⟩
def b18:ByteArray:=⟨#[32,99,117,114,114,101,110,99,121,32]⟩
def c0e:ByteArray:=⟨#[32,123,32]⟩
def a70:ByteArray:=⟨#[49,57,48,48,45,48,49,45,48,49]⟩
def a6w:ByteArray:=⟨#[49,57,57,54,45,48,55,45,48,49]⟩
def a6v:ByteArray:=⟨#[50,48,48,49,45,48,49,45,48,49]⟩
def a34:ByteArray:=⟨#[125]⟩
def b5n:ByteArray:=⟨#[60,61]⟩
def a5p:ByteArray:=⟨#[62,61]⟩
def b5h:ByteArray:=⟨#[60,62]⟩
def b88:ByteArray:=⟨#[97,110,100]⟩
def b15:ByteArray:=⟨#[98,101,115,116]⟩
def c12:ByteArray:=⟨#[98,121]⟩
def a2h:ByteArray:=⟨#[99,114,101,100,105,116]⟩
def a2m:ByteArray:=⟨#[99,117,114,114,101,110,99,121]⟩
def b4f:ByteArray:=⟨#[101,108,115,101]⟩
def b1r:ByteArray:=⟨#[102,108,111,111,114]⟩
def b3z:ByteArray:=⟨#[102,114,111,109]⟩
def a3y:ByteArray:=⟨#[103,114,97,110,116]⟩
def b0e:ByteArray:=⟨#[105,102]⟩
def a56:ByteArray:=⟨#[105,110,100,101,120]⟩
def b0r:ByteArray:=⟨#[108,101,116]⟩
def a8g:ByteArray:=⟨#[108,105,109,105,116]⟩
def b51:ByteArray:=⟨#[109,97,120]⟩
def b66:ByteArray:=⟨#[109,105,110]⟩
def b7o:ByteArray:=⟨#[110,111,116]⟩
def c49:ByteArray:=⟨#[111,114]⟩
def b22:ByteArray:=⟨#[112,97,121]⟩
def a4h:ByteArray:=⟨#[114,101,100,117,99,101]⟩
def b1l:ByteArray:=⟨#[114,111,117,110,100]⟩
def a3v:ByteArray:=⟨#[115,116,97,116,117,116,101]⟩
def b8c:ByteArray:=⟨#[116,104,101,110]⟩
def c4c:ByteArray:=⟨#[0,1,2,2,3,3,3,3,4,4,4,4,4,4,4,4,5,5,5,5,5,5,5,5,5,5,5,5,5,5,5,5,6,6,6,6,6,6,6,6,6,6,6,6,6,6,6,6,6,6,6,6,6,6,6,6,6,6,6,6,6,6,6,6,7,7,7,7,7,7,7,7,7,7,7,7,7,7,7,7,7,7,7,7,7,7,7,7,7,7,7,7,7,7,7,7,7,7,7,7,7,7,7,7,7,7,7,7,7,7,7,7,7,7,7,7,7,7,7,7,7,7,7,7,7,7,7,7,8,8,8,8,8,8,8,8,8,8,8,8,8,8,8,8,8,8,8,8,8,8,8,8,8,8,8,8,8,8,8,8,8,8,8,8,8,8,8,8,8,8,8,8,8,8,8,8,8,8,8,8,8,8,8,8,8,8,8,8,8,8,8,8,8,8,8,8,8,8,8,8,8,8,8,8,8,8,8,8,8,8,8,8,8,8,8,8,8,8,8,8,8,8,8,8,8,8,8,8,8,8,8,8,8,8,8,8,8,8,8,8,8,8,8,8,8,8,8,8,8,8,8,8,8,8,8,8]⟩
def a60:ByteArray:=⟨#[118,111,108,117,110,116,97,114,121]⟩
def b3e:ByteArray:=⟨#[115,101,114,118,105,99,101]⟩
def a8h:ByteArray:=⟨#[117,110,101,109,112,108,111,121,101,100]⟩
def c9o:ByteArray:=⟨#[115,105,99,107]⟩
def b82:ByteArray:=⟨#[99,104,105,108,100]⟩
def a9g:ByteArray:=⟨#[114,101,115,105,100,101,110,99,101]⟩
def b9t:ByteArray:=⟨#[111,108,100]⟩
def a5a:ByteArray:=⟨#[100,105,115,97,98,105,108,105,116,121]⟩
def b1h:ByteArray:=⟨#[115,117,114,118,105,118,111,114]⟩
def b5i:ByteArray:=⟨#[102,97,109,105,108,121]⟩
def b1g:ByteArray:=⟨#[115,105,99,107,110,101,115,115]⟩
def c1u:ByteArray:=⟨#[100,111,119,110]⟩
def d0l:ByteArray:=⟨#[117,112]⟩
def c1n:ByteArray:=⟨#[104,97,108,102]⟩
def c14:ByteArray:=⟨#[101,118,101,110]⟩
def c9r:ByteArray:=⟨#[43]⟩
def b7v:ByteArray:=⟨#[45]⟩
def a87:ByteArray:=⟨#[42]⟩
def b9f:ByteArray:=⟨#[47]⟩
def c9p:ByteArray:=⟨#[60]⟩
def b7c:ByteArray:=⟨#[61]⟩
def d5a:ByteArray:=⟨#[62]⟩
def a8v:ByteArray:=⟨#[40]⟩
def b0y:ByteArray:=⟨#[41]⟩
def c2l:ByteArray:=⟨#[44]⟩
def a0j:ByteArray:=⟨#[59]⟩
def b3b:ByteArray:=⟨#[123]⟩
def e8r:ByteArray:=⟨#[100]⟩
def e62:ByteArray:=⟨#[109]⟩
def f9b:ByteArray:=⟨#[83]⟩
def f7u:ByteArray:=⟨#[84]⟩
def f7s:ByteArray:=⟨#[72]⟩
def g0n:ByteArray:=⟨#[67]⟩
def g0d:ByteArray:=⟨#[65]⟩
def f8f:ByteArray:=⟨#[82]⟩
def b9x:ByteArray:=⟨#[97,103,101]⟩
def a4m:ByteArray:=⟨#[105,110,115,117,114,101,100]⟩
def a9r:ByteArray:=⟨#[98,97,115,101]⟩
def b5g:ByteArray:=⟨#[119,111,114,107,101,100]⟩
def b31:ByteArray:=⟨#[101,113,117,97,116,101,100]⟩
def c4t:ByteArray:=⟨#[114,97,105,115,105,110,103]⟩
def d2n:ByteArray:=⟨#[114,101,115,105,100,101,110,116]⟩
def d6g:ByteArray:=⟨#[121,101,97,114]⟩
def b1y:ByteArray:=⟨#[99,104,105,108,100,114,101,110]⟩
def b3s (a b:List Int):Option Int:=some (f9h (a.map fun x=>x) (b.map fun x=>x))
def a5y (s:ByteArray) (c:Int):Option Int:=some (f5c s c)
def b6 (a0:Int) (a1:Int):Option Int:=
 (b46 a0 a1).bind fun v1=>
 if (decide (v1<0)) then
 some (i64 (v1+a1))
 else
 some v1
def c8 (a0:List Int) (a1:Int):Option Int:=
 if ((a0.length:Int)==0) then
 some 0
 else
 (b6 a1 (a0.length:Int)).bind fun v1=>
 (i7 a0 v1).bind fun v2=>
 some v2
def b2c (a0:List Int) (r2:((List api_Fact)×Int) -> Option (List api_Fact)) (v1:(List api_Fact)×Int):Option (List api_Fact):=
 if (decide (v1.2 <= 2)) then
 (c8 a0 v1.2).bind fun v3=>
 (b6 v3 3).bind fun v4=>
 (c8 a0 (i64 (v1.2+2))).bind fun v5=>
 (b6 v5 3).bind fun v6=>
 (c8 a0 (i64 (v1.2+4))).bind fun v7=>
 (b6 v7 6000).bind fun v8=>
 (c8 a0 (i64 (v1.2+6))).bind fun v9=>
 (b6 v9 3000).bind fun v10=>
 (a8q 112 v1.1 [(⟨v4,i64 (900+v1.2),1,false,v1.2,11,0,(⟨i64 (13000+v10),i64 ((i64 (13000+v10))+1)⟩:Span),0,0,0,0,0⟩:api_Fact)]).bind fun v11=>
 (a8q 112 v11 [(⟨v4,i64 (910+v1.2),1,false,v1.2,5,v4,(⟨20000,60000⟩:Span),0,0,0,0,0⟩:api_Fact)]).bind fun v12=>
 (c8 a0 (i64 (v1.2+8))).bind fun v13=>
 (b6 v13 900000).bind fun v14=>
 (a8q 112 v12 [(⟨v4,i64 (920+v1.2),1,false,v1.2,1,v4,(⟨22000,i64 (27000+v8)⟩:Span),v4,100,i64 (1+v4),i64 (900000+v14),0⟩:api_Fact)]).bind fun v15=>
 (c8 a0 (i64 (v1.2+10))).bind fun v16=>
 (b6 v16 3000).bind fun v17=>
 (c8 a0 (i64 (v1.2+12))).bind fun v18=>
 (b6 v18 900000).bind fun v19=>
 (a8q 112 v15 [(⟨v6,i64 (930+v1.2),1,false,v1.2,1,v6,(⟨i64 (27000+v8),i64 (34400+v17)⟩:Span),v6,50,i64 (1+v6),i64 (700000+v19),0⟩:api_Fact)]).bind fun v20=>
 (a8q 112 v20 [(⟨v4,i64 (940+v1.2),1,false,v1.2,10,v4,(⟨32000,38500⟩:Span),0,0,0,0,3⟩:api_Fact)]).bind fun v21=>
 (a8q 112 v21 [(⟨v4,i64 (950+v1.2),1,false,v1.2,14,0,(⟨26000,50000⟩:Span),0,0,0,0,i64 (3-v1.2)⟩:api_Fact)]).bind fun v22=>
 r2 (v22,i64 (v1.2+1))
 else
 (c8 a0 15).bind fun v23=>
 (b6 v23 2000).bind fun v24=>
 (c8 a0 16).bind fun v25=>
 (b6 v25 2000).bind fun v26=>
 (a8q 112 v1.1 [(⟨0,961,1,false,1,13,0,(⟨i64 (34000+v24),i64 (36500+v26)⟩:Span),0,0,0,0,0⟩:api_Fact)]).bind fun v27=>
 (c8 a0 17).bind fun v28=>
 (b6 v28 900).bind fun v29=>
 (c8 a0 17).bind fun v30=>
 (b6 v30 900).bind fun v31=>
 (a8q 112 v27 [(⟨1,962,1,false,2,12,0,(⟨i64 (35600+v29),i64 (35601+v31)⟩:Span),0,0,0,0,0⟩:api_Fact)]).bind fun v32=>
 (c8 a0 18).bind fun v33=>
 (b6 v33 1200).bind fun v34=>
 (c8 a0 19).bind fun v35=>
 (b6 v35 300).bind fun v36=>
 (a8q 112 v32 [(⟨0,963,1,false,1,8,0,(⟨i64 (35000+v34),i64 (36250+v36)⟩:Span),0,0,0,0,0⟩:api_Fact)]).bind fun v37=>
 some v37
def a7r (a0:List Int):Option (List api_Fact):=
 d8 FU (b2c a0) ([],1)
def a6z (a0:Int):Option Int:=
 (b6 a0 4).bind fun v1=>
 if (v1==0) then
 (b7a a0 4).bind fun v2=>
 (b6 v2 9000).bind fun v3=>
 some (i64 (1+v3))
 else
 if (v1==1) then
 (b7a a0 4).bind fun v4=>
 (b6 v4 1200).bind fun v5=>
 some (i64 (1+v5))
 else
 if (v1==2) then
 (b7a a0 4).bind fun v6=>
 (b6 v6 120).bind fun v7=>
 some (i64 (1+v7))
 else
 (b7a a0 4).bind fun v8=>
 (b6 v8 12).bind fun v9=>
 some (i64 (1+v9))
def a5m (a0:Int):Option ByteArray:=
 (if (decide (a0<1)) then some true else some (decide (a0 >= ([a1v,a91,a5j,a5j,b89,a7a,b4l,a7a,a7a,a7a,b7z,b74,b74,b74,c3e].length:Int)))).bind fun v1=>
 if v1 then
 some a1v
 else
 (i7 [a1v,a91,a5j,a5j,b89,a7a,b4l,a7a,a7a,a7a,b7z,b74,b74,b74,c3e] a0).bind fun v2=>
 (i7 [a1v,a91,a5j,a5j,b89,a7a,b4l,a7a,a7a,a7a,b7z,b74,b74,b74,c3e] a0).bind fun v3=>
 some v3
def b38 (v10:ByteArray) (v9:pensionhand_Fact×api_Fact×api_Fact×Int×Int) (r12:(pensionhand_Fact×api_Fact×api_Fact×Int) -> Option api_Fact) (v11:pensionhand_Fact×api_Fact×api_Fact×Int):Option api_Fact:=
 if (decide (v11.2.2.2<(v10.size:Int))) then
 (b03 v10 v11.2.2.2).bind fun v13=>
 if (v13==83) then
 (b6 v11.1.State 3).bind fun v14=>
 r12 (v11.1,v11.2.1,(⟨v11.2.2.1.Issuer,v11.2.2.1.Number,v11.2.2.1.Version,v11.2.2.1.Withdrawn,v11.2.2.1.Person,v11.2.2.1.Kind,v14,v11.2.2.1.Span,v11.2.2.1.Seat,v11.2.2.1.Share,v11.2.2.1.Currency,v11.2.2.1.Amount,v11.2.2.1.Ref⟩:api_Fact),i64 (v11.2.2.2+1))
 else
 if (v13==80) then
 r12 (v11.1,v11.2.1,(⟨v11.2.2.1.Issuer,v11.2.2.1.Number,v11.2.2.1.Version,v11.2.2.1.Withdrawn,v11.2.2.1.Person,v11.2.2.1.Kind,v11.2.2.1.State,(⟨v9.2.2.2.1,v9.2.2.2.2⟩:Span),v11.2.2.1.Seat,v11.2.2.1.Share,v11.2.2.1.Currency,v11.2.2.1.Amount,v11.2.2.1.Ref⟩:api_Fact),i64 (v11.2.2.2+1))
 else
 if (v13==84) then
 (b6 v11.1.Seat 3).bind fun v15=>
 (if (v11.2.2.1.Kind==4) then some (v15==v11.2.2.1.State) else some false).bind fun v16=>
 if v16 then
 (b6 (i64 (v11.2.2.1.State+1)) 3).bind fun v17=>
 r12 (v11.1,v11.2.1,(⟨v11.2.2.1.Issuer,v11.2.2.1.Number,v11.2.2.1.Version,v11.2.2.1.Withdrawn,v11.2.2.1.Person,v11.2.2.1.Kind,v11.2.2.1.State,v11.2.2.1.Span,v17,v11.2.2.1.Share,v11.2.2.1.Currency,v11.2.2.1.Amount,v11.2.2.1.Ref⟩:api_Fact),i64 (v11.2.2.2+1))
 else
 r12 (v11.1,v11.2.1,(⟨v11.2.2.1.Issuer,v11.2.2.1.Number,v11.2.2.1.Version,v11.2.2.1.Withdrawn,v11.2.2.1.Person,v11.2.2.1.Kind,v11.2.2.1.State,v11.2.2.1.Span,v15,v11.2.2.1.Share,v11.2.2.1.Currency,v11.2.2.1.Amount,v11.2.2.1.Ref⟩:api_Fact),i64 (v11.2.2.2+1))
 else
 if (v13==72) then
 (b6 v11.1.Share 100).bind fun v18=>
 r12 (v11.1,v11.2.1,(⟨v11.2.2.1.Issuer,v11.2.2.1.Number,v11.2.2.1.Version,v11.2.2.1.Withdrawn,v11.2.2.1.Person,v11.2.2.1.Kind,v11.2.2.1.State,v11.2.2.1.Span,v11.2.2.1.Seat,i64 (1+v18),v11.2.2.1.Currency,v11.2.2.1.Amount,v11.2.2.1.Ref⟩:api_Fact),i64 (v11.2.2.2+1))
 else
 if (v13==67) then
 (b46 v11.1.State 3).bind fun v19=>
 (b6 (i64 (v11.1.Seat+v19)) 3).bind fun v20=>
 r12 (v11.1,v11.2.1,(⟨v11.2.2.1.Issuer,v11.2.2.1.Number,v11.2.2.1.Version,v11.2.2.1.Withdrawn,v11.2.2.1.Person,v11.2.2.1.Kind,v11.2.2.1.State,v11.2.2.1.Span,v11.2.2.1.Seat,v11.2.2.1.Share,i64 (1+v20),v11.2.2.1.Amount,v11.2.2.1.Ref⟩:api_Fact),i64 (v11.2.2.2+1))
 else
 if (v13==65) then
 (b6 v11.1.Amount 3000000).bind fun v21=>
 r12 (v11.1,v11.2.1,(⟨v11.2.2.1.Issuer,v11.2.2.1.Number,v11.2.2.1.Version,v11.2.2.1.Withdrawn,v11.2.2.1.Person,v11.2.2.1.Kind,v11.2.2.1.State,v11.2.2.1.Span,v11.2.2.1.Seat,v11.2.2.1.Share,v11.2.2.1.Currency,v21,v11.2.2.1.Ref⟩:api_Fact),i64 (v11.2.2.2+1))
 else
 (b6 v11.1.Ref 4).bind fun v22=>
 if ((i64 (1+v22))==v11.2.2.1.Person) then
 (b6 v11.2.2.1.Person 4).bind fun v23=>
 r12 (v11.1,v11.2.1,(⟨v11.2.2.1.Issuer,v11.2.2.1.Number,v11.2.2.1.Version,v11.2.2.1.Withdrawn,v11.2.2.1.Person,v11.2.2.1.Kind,v11.2.2.1.State,v11.2.2.1.Span,v11.2.2.1.Seat,v11.2.2.1.Share,v11.2.2.1.Currency,v11.2.2.1.Amount,i64 (1+v23)⟩:api_Fact),i64 (v11.2.2.2+1))
 else
 r12 (v11.1,v11.2.1,(⟨v11.2.2.1.Issuer,v11.2.2.1.Number,v11.2.2.1.Version,v11.2.2.1.Withdrawn,v11.2.2.1.Person,v11.2.2.1.Kind,v11.2.2.1.State,v11.2.2.1.Span,v11.2.2.1.Seat,v11.2.2.1.Share,v11.2.2.1.Currency,v11.2.2.1.Amount,i64 (1+v22)⟩:api_Fact),i64 (v11.2.2.2+1))
 else
 some v11.2.2.1
def a32 (v9:pensionhand_Fact×api_Fact×api_Fact×Int×Int):Option api_Fact:=
 (a5m v9.2.2.1.Kind).bind fun v10=>
 d8 FU (b38 v10 v9) (v9.1,v9.2.1,v9.2.2.1,0)
def a8l (a0:pensionhand_Fact):Option api_Fact:=
 (b6 a0.Issuer 3).bind fun v1=>
 (b6 a0.Number 20).bind fun v2=>
 (b6 a0.Version 3).bind fun v3=>
 (b6 a0.Person 4).bind fun v4=>
 (b6 a0.Kind 14).bind fun v5=>
 (b6 a0.From 16000).bind fun v6=>
 (a6z a0.Length).bind fun v7=>
 if ((i64 (1+v5))==11) then
 (b6 a0.From 5000).bind fun v8=>
 joinC a32 (a0,(⟨0,0,0,false,0,0,0,(⟨0,0⟩:Span),0,0,0,0,0⟩:api_Fact),(⟨v1,i64 (1+v2),i64 (1+v3),a0.Withdrawn,i64 (1+v4),i64 (1+v5),0,(⟨0,0⟩:Span),0,0,0,0,0⟩:api_Fact),i64 (12000+v8),i64 ((i64 (12000+v8))+1))
 else
 if ((i64 (1+v5))==12) then
 (b6 a0.From 6000).bind fun v24=>
 joinC a32 (a0,(⟨0,0,0,false,0,0,0,(⟨0,0⟩:Span),0,0,0,0,0⟩:api_Fact),(⟨v1,i64 (1+v2),i64 (1+v3),a0.Withdrawn,i64 (1+v4),i64 (1+v5),0,(⟨0,0⟩:Span),0,0,0,0,0⟩:api_Fact),i64 (34000+v24),i64 ((i64 (34000+v24))+1))
 else
 if ((i64 (1+v5))==8) then
 (b6 a0.From 4000).bind fun v25=>
 (b6 a0.Length 700).bind fun v26=>
 joinC a32 (a0,(⟨0,0,0,false,0,0,0,(⟨0,0⟩:Span),0,0,0,0,0⟩:api_Fact),(⟨v1,i64 (1+v2),i64 (1+v3),a0.Withdrawn,i64 (1+v4),i64 (1+v5),0,(⟨0,0⟩:Span),0,0,0,0,0⟩:api_Fact),i64 (34000+v25),i64 ((i64 ((i64 (34000+v25))+1))+v26))
 else
 joinC a32 (a0,(⟨0,0,0,false,0,0,0,(⟨0,0⟩:Span),0,0,0,0,0⟩:api_Fact),(⟨v1,i64 (1+v2),i64 (1+v3),a0.Withdrawn,i64 (1+v4),i64 (1+v5),0,(⟨0,0⟩:Span),0,0,0,0,0⟩:api_Fact),i64 (21900+v6),i64 ((i64 (21900+v6))+v7))
def b2e (a0:List pensionhand_Fact) (r2:((List api_Fact)×Int) -> Option (List api_Fact)) (v1:(List api_Fact)×Int):Option (List api_Fact):=
 (if (decide (v1.2<(a0.length:Int))) then some (decide (v1.2<12)) else some false).bind fun v3=>
 if v3 then
 (i7 a0 v1.2).bind fun v4=>
 (a8l v4).bind fun v5=>
 (a8q 112 v1.1 [v5]).bind fun v6=>
 r2 (v6,i64 (v1.2+1))
 else
 some v1.1
def a7s (a0:List pensionhand_Fact):Option (List api_Fact):=
 d8 FU (b2e a0) ([],0)
def a0y (r2:(Int×ByteArray) -> Option ByteArray) (v1:Int×ByteArray):Option ByteArray:=
 if (decide (v1.1>9)) then
 (b46 v1.1 10).bind fun v3=>
 (b46 v1.1 10).bind fun v4=>
 (b6q a4e v3 (i64 (v4+1))).bind fun v5=>
 (a4l v5 v1.2).bind fun v6=>
 (b7a v1.1 10).bind fun v7=>
 r2 (v7,v6)
 else
 (b6q a4e v1.1 (i64 (v1.1+1))).bind fun v8=>
 (a4l v8 v1.2).bind fun v9=>
 some v9
def k6 (a0:Int):Option ByteArray:=
 d8 FU a0y (a0,a1v)
def u9 (a0:Int):Option ByteArray:=
 (b7a a0 100).bind fun v1=>
 (k6 v1).bind fun v2=>
 (a4l v2 a9m).bind fun v3=>
 (b7a a0 10).bind fun v4=>
 (b46 v4 10).bind fun v5=>
 (k6 v5).bind fun v6=>
 (a4l v3 v6).bind fun v7=>
 (b46 a0 10).bind fun v8=>
 (k6 v8).bind fun v9=>
 (a4l v7 v9).bind fun v10=>
 some v10
def a1g (v104:(List Int)×Int×ByteArray):Option ByteArray:=
 (c8 v104.1 (i64 (v104.2.1+18))).bind fun v105=>
 (b6 v105 3).bind fun v106=>
 if (v106==0) then
 (a4l v104.2.2 b6f).bind fun v107=>
 (a4l v107 b14).bind fun v108=>
 some v108
 else
 (a4l v104.2.2 b14).bind fun v109=>
 some v109
def a1i (v78:(List Int)×Int×ByteArray):Option ByteArray:=
 (c8 v78.1 (i64 (v78.2.1+14))).bind fun v79=>
 (b6 v79 800).bind fun v80=>
 (k6 v80).bind fun v81=>
 (a4l b9l v81).bind fun v82=>
 (a4l v82 c2f).bind fun v83=>
 (c8 v78.1 (i64 (v78.2.1+15))).bind fun v84=>
 (b6 v84 300).bind fun v85=>
 (k6 (i64 (10+v85))).bind fun v86=>
 (a4l v83 v86).bind fun v87=>
 (a4l v87 b93).bind fun v88=>
 (a4l v78.2.2 v88).bind fun v89=>
 (c8 v78.1 (i64 (v78.2.1+16))).bind fun v90=>
 (b6 v90 400).bind fun v91=>
 (k6 v91).bind fun v92=>
 (a4l c05 v92).bind fun v93=>
 (a4l v93 b9r).bind fun v94=>
 (a4l v89 v94).bind fun v95=>
 (c8 v78.1 (i64 (v78.2.1+17))).bind fun v96=>
 (b6 v96 3).bind fun v97=>
 if (decide (v97>0)) then
 (c8 v78.1 (i64 (v78.2.1+17))).bind fun v98=>
 (b6 v98 11).bind fun v99=>
 (u9 (i64 (10*v99))).bind fun v100=>
 (a4l a9v v100).bind fun v101=>
 (a4l v101 a45).bind fun v102=>
 (a4l v95 v102).bind fun v103=>
 joinC a1g (v78.1,v78.2.1,v103)
 else
 joinC a1g (v78.1,v78.2.1,v95)
def a1j (v28:(List Int)×Int×ByteArray×ByteArray):Option ByteArray:=
 (c8 v28.1 (i64 (v28.2.1+5))).bind fun v29=>
 (b6 v29 300).bind fun v30=>
 (u9 (i64 (100+v30))).bind fun v31=>
 (a4l c07 v31).bind fun v32=>
 (a4l v32 b9d).bind fun v33=>
 (c8 v28.1 (i64 (v28.2.1+6))).bind fun v34=>
 (b6 v34 300).bind fun v35=>
 (u9 (i64 (400+v35))).bind fun v36=>
 (a4l v33 v36).bind fun v37=>
 (a4l v37 a45).bind fun v38=>
 (a4l v28.2.2.2 v38).bind fun v39=>
 (a4l b9w v28.2.2.1).bind fun v40=>
 (a4l v40 b98).bind fun v41=>
 (c8 v28.1 (i64 (v28.2.1+7))).bind fun v42=>
 (b6 v42 4).bind fun v43=>
 (u9 (i64 (1+v43))).bind fun v44=>
 (a4l v41 v44).bind fun v45=>
 (a4l v45 b9y).bind fun v46=>
 (a4l v39 v46).bind fun v47=>
 (c8 v28.1 (i64 (v28.2.1+8))).bind fun v48=>
 (b6 v48 12).bind fun v49=>
 (k6 (i64 (50+v49))).bind fun v50=>
 (a4l b94 v50).bind fun v51=>
 (a4l v51 c02).bind fun v52=>
 (c8 v28.1 (i64 (v28.2.1+9))).bind fun v53=>
 (b6 v53 6000).bind fun v54=>
 (k6 v54).bind fun v55=>
 (a4l v52 v55).bind fun v56=>
 (a4l v56 c04).bind fun v57=>
 (c8 v28.1 (i64 (v28.2.1+10))).bind fun v58=>
 (b6 v58 900).bind fun v59=>
 (k6 v59).bind fun v60=>
 (a4l v57 v60).bind fun v61=>
 (a4l v61 b7h).bind fun v62=>
 (a4l v47 v62).bind fun v63=>
 (c8 v28.1 (i64 (v28.2.1+11))).bind fun v64=>
 (b6 v64 2000).bind fun v65=>
 (k6 v65).bind fun v66=>
 (a4l b9g v66).bind fun v67=>
 (a4l v67 c08).bind fun v68=>
 (c8 v28.1 (i64 (v28.2.1+12))).bind fun v69=>
 (b6 v69 60).bind fun v70=>
 (u9 (i64 (20+v70))).bind fun v71=>
 (a4l v68 v71).bind fun v72=>
 (a4l v72 a45).bind fun v73=>
 (a4l v63 v73).bind fun v74=>
 (c8 v28.1 (i64 (v28.2.1+13))).bind fun v75=>
 (b6 v75 5).bind fun v76=>
 if (decide (v76>0)) then
 (a4l v74 b96).bind fun v77=>
 joinC a1i (v28.1,v28.2.1,v77)
 else
 joinC a1i (v28.1,v28.2.1,v74)
def a1h (v24:(List Int)×Int×ByteArray×ByteArray):Option ByteArray:=
 (c8 v24.1 (i64 (v24.2.1+4))).bind fun v25=>
 (b6 v25 4).bind fun v26=>
 if (v26==0) then
 (a4l v24.2.2.2 b9k).bind fun v27=>
 joinC a1j (v24.1,v24.2.1,v24.2.2.1,v27)
 else
 joinC a1j (v24.1,v24.2.1,v24.2.2.1,v24.2.2.2)
def a09 (v9:(List Int)×Int×ByteArray×ByteArray):Option ByteArray:=
 (c8 v9.1 (i64 (v9.2.1+2))).bind fun v10=>
 (b6 v10 900).bind fun v11=>
 (k6 (i64 (1+v11))).bind fun v12=>
 (a4l b9c v12).bind fun v13=>
 (a4l v13 a45).bind fun v14=>
 (a4l v9.2.2.2 v14).bind fun v15=>
 (c8 v9.1 (i64 (v9.2.1+3))).bind fun v16=>
 (b6 v16 3).bind fun v17=>
 if (decide (v17>0)) then
 (c8 v9.1 (i64 (v9.2.1+3))).bind fun v18=>
 (b6 v18 1000).bind fun v19=>
 (k6 (i64 (100+v19))).bind fun v20=>
 (a4l b9j v20).bind fun v21=>
 (a4l v21 a45).bind fun v22=>
 (a4l v15 v22).bind fun v23=>
 joinC a1h (v9.1,v9.2.1,v9.2.2.1,v23)
 else
 joinC a1h (v9.1,v9.2.1,v9.2.2.1,v15)
def a16 (a0:ByteArray) (a1:List Int) (a2:Int):Option ByteArray:=
 (c8 a1 a2).bind fun v1=>
 (b6 v1 90).bind fun v2=>
 (k6 (i64 (300+v2))).bind fun v3=>
 (a4l b44 a0).bind fun v4=>
 (a4l v4 a9k).bind fun v5=>
 (c8 a1 (i64 (a2+1))).bind fun v6=>
 (b6 v6 4).bind fun v7=>
 if (v7==0) then
 (a4l v5 b57).bind fun v8=>
 joinC a09 (a1,a2,v3,v8)
 else
 if (v7==1) then
 (a4l v5 b4t).bind fun v110=>
 joinC a09 (a1,a2,v3,v110)
 else
 if (v7==2) then
 (a4l v5 b87).bind fun v111=>
 joinC a09 (a1,a2,v3,v111)
 else
 (a4l v5 b3c).bind fun v112=>
 joinC a09 (a1,a2,v3,v112)
def a33 (v14:Int×(List Int)×ByteArray):Option ByteArray:=
 (c8 v14.2.1 (i64 (37+v14.1))).bind fun v15=>
 (b6 v15 3).bind fun v16=>
 if (v16==0) then
 (a16 a6v v14.2.1 (i64 ((i64 (7*v14.1))+5))).bind fun v17=>
 (a4l v14.2.2 v17).bind fun v18=>
 (a4l v18 a34).bind fun v19=>
 some v19
 else
 (a4l v14.2.2 a34).bind fun v20=>
 some v20
def a18 (a0:Int) (a1:List Int):Option ByteArray:=
 (i7 (⟨[b61,b6h,b32],rfl⟩:Ar 3 ByteArray).l a0).bind fun v1=>
 (i7 (⟨[b61,b6h,b32],rfl⟩:Ar 3 ByteArray).l a0).bind fun v2=>
 (a4l b4o v2).bind fun v3=>
 (a4l v3 b18).bind fun v4=>
 (k6 (i64 (1+a0))).bind fun v5=>
 (a4l v4 v5).bind fun v6=>
 (a4l v6 c0e).bind fun v7=>
 (a16 a70 a1 (i64 (7*a0))).bind fun v8=>
 (a4l v7 v8).bind fun v9=>
 (c8 a1 (i64 (31+a0))).bind fun v10=>
 (b6 v10 3).bind fun v11=>
 if (decide (v11>0)) then
 (a16 a6w a1 (i64 ((i64 (7*a0))+3))).bind fun v12=>
 (a4l v9 v12).bind fun v13=>
 joinC a33 (a0,a1,v13)
 else
 joinC a33 (a0,a1,v9)
def a4n (a0:ByteArray) (r2:(Int×Bool) -> Option Int) (v1:Int×Bool):Option Int:=
 if (decide (v1.1<(a0.size:Int))) then
 (b03 a0 v1.1).bind fun v3=>
 if (v3==10) then
 r2 (i64 (v1.1+1),false)
 else
 if (v3==35) then
 r2 (i64 (v1.1+1),true)
 else
 (if (!v1.2) then some (v3 != 9) else some false).bind fun v4=>
 (if v4 then some (v3 != 13) else some false).bind fun v5=>
 (if v5 then some (v3 != 32) else some false).bind fun v6=>
 if v6 then
 some v1.1
 else
 r2 (i64 (v1.1+1),v1.2)
 else
 some v1.1
def a65 (a0:ByteArray) (a1:Int):Option Int:=
 d8 FU (a4n a0) (a1,false)
def a3n (a0:Int):Option Bool:=
 (if (decide (a0 >= 97)) then some (decide (a0 <= 122)) else some false).bind fun v1=>
 some v1
def a31 (a0:Int):Option Bool:=
 (if (decide (a0 >= 48)) then some (decide (a0 <= 57)) else some false).bind fun v1=>
 some v1
def a55 (a1:Int) (a0:ByteArray) (a2:Bool) (r2:Int -> Option Int) (v1:Int):Option Int:=
 (if (decide ((i64 (a1+v1))<(a0.size:Int))) then (b03 a0 (i64 (a1+v1))).bind fun v3=>
 (a3n v3).bind fun v4=>
 (if v4 then some true else (b03 a0 (i64 (a1+v1))).bind fun v5=>
 (a31 v5).bind fun v6=>
 some v6).bind fun v7=>
 (if v7 then some true else (b03 a0 (i64 (a1+v1))).bind fun v8=>
 some (v8==95)).bind fun v9=>
 (if v9 then some true else (if a2 then (b03 a0 (i64 (a1+v1))).bind fun v10=>
 some (v10==46) else some false).bind fun v11=>
 some v11).bind fun v12=>
 some v12 else some false).bind fun v13=>
 if v13 then
 r2 (i64 (v1+1))
 else
 some v1
def a4i (a0:ByteArray) (a1:Int) (a2:Bool):Option Int:=
 d8 FU (a55 a1 a0 a2) 0
def a3x (v11:Int×ByteArray×ByteArray) (r13:Int -> Option (ByteArray×ByteArray×Int×Bool)) (v12:Int):Option (ByteArray×ByteArray×Int×Bool):=
 if (decide (v12<(i64 ((v11.2.1.size:Int)+(v11.2.2.size:Int))))) then
 (a4l v11.2.1 v11.2.2).bind fun v14=>
 (b03 v14 v12).bind fun v15=>
 (a31 v15).bind fun v16=>
 if (!v16) then
 some (a1v,a1v,0,false)
 else
 r13 (i64 (v12+1))
 else
 (if (decide ((v11.2.1.size:Int)<1)) then some true else some (decide ((v11.2.1.size:Int)>9))).bind fun v17=>
 (if v17 then some true else (if (decide ((v11.2.1.size:Int)>1)) then (b03 v11.2.1 0).bind fun v18=>
 some (v18==48) else some false).bind fun v19=>
 some v19).bind fun v20=>
 if v20 then
 some (a1v,a1v,0,false)
 else
 some (v11.2.1,v11.2.2,v11.1,true)
def b2m (v11:Int×ByteArray×ByteArray):Option (ByteArray×ByteArray×Int×Bool):=
 d8 FU (a3x v11) 0
def a41 (v4:ByteArray×Int) (r6:(Int×Int) -> Option (ByteArray×ByteArray×Int×Bool)) (v5:Int×Int):Option (ByteArray×ByteArray×Int×Bool):=
 if (decide (v5.2 >= 0)) then
 (b03 v4.1 v5.2).bind fun v7=>
 if (v7==46) then
 r6 (v5.2,i64 (v5.2-1))
 else
 r6 (v5.1,i64 (v5.2-1))
 else
 (b6q v4.1 0 v5.1).bind fun v8=>
 if (decide (v5.1<(v4.1.size:Int))) then
 (b6q v4.1 (i64 (v5.1+1)) (v4.1.size:Int)).bind fun v9=>
 (if (decide ((v9.size:Int)<1)) then some true else some (decide ((v9.size:Int)>4))).bind fun v10=>
 if v10 then
 some (a1v,a1v,0,false)
 else
 joinC b2m (v4.2,v8,v9)
 else
 joinC b2m (v4.2,v8,a1v)
def a40 (v4:ByteArray×Int):Option (ByteArray×ByteArray×Int×Bool):=
 d8 FU (a41 v4) ((v4.1.size:Int),i64 ((v4.1.size:Int)-1))
def a0o (a0:ByteArray):Option (ByteArray×ByteArray×Int×Bool):=
 (if (decide ((a0.size:Int)>0)) then (b03 a0 (i64 ((a0.size:Int)-1))).bind fun v1=>
 some (v1==100) else some false).bind fun v2=>
 if v2 then
 (b6q a0 0 (i64 ((a0.size:Int)-1))).bind fun v3=>
 joinC a40 (v3,3)
 else
 (if (decide ((a0.size:Int)>0)) then (b03 a0 (i64 ((a0.size:Int)-1))).bind fun v21=>
 some (v21==109) else some false).bind fun v22=>
 if v22 then
 (b6q a0 0 (i64 ((a0.size:Int)-1))).bind fun v23=>
 joinC a40 (v23,4)
 else
 joinC a40 (a0,2)
def b8q (a0:ByteArray) (r2:(Int×Int) -> Option (Int×Bool)) (v1:Int×Int):Option (Int×Bool):=
 if (decide (v1.2<(a0.size:Int))) then
 (b03 a0 v1.2).bind fun v3=>
 (if (decide (v3<48)) then some true else (b03 a0 v1.2).bind fun v4=>
 some (decide (v4>57))).bind fun v5=>
 if v5 then
 some (0,false)
 else
 (b03 a0 v1.2).bind fun v6=>
 r2 (i64 ((i64 (v1.1*10))+(i64 (IntKind.u8.wrap (v6-48)))),i64 (v1.2+1))
 else
 some (v1.1,decide ((a0.size:Int)>0))
def a7n (a0:ByteArray):Option (Int×Bool):=
 d8 FU (b8q a0) (0,0)
def b6w (a0:Int):Option Bool:=
 (b46 a0 4).bind fun v1=>
 (if (v1==0) then (b46 a0 100).bind fun v2=>
 (if (v2 != 0) then some true else (b46 a0 400).bind fun v3=>
 some (v3==0)).bind fun v4=>
 some v4 else some false).bind fun v5=>
 some v5
def a9z (a0:Int) (a1:Int):Option Int:=
 if (a1==2) then
 (b6w a0).bind fun v1=>
 if v1 then
 some 29
 else
 some 28
 else
 if (a1==4) then
 if (a1==4) then
 some 30
 else
 some 31
 else
 if (a1==6) then
 if (a1==6) then
 some 30
 else
 some 31
 else
 if (a1==9) then
 if (a1==9) then
 some 30
 else
 some 31
 else
 if (a1==11) then
 some 30
 else
 some 31
def b8r (a0:Int) (r2:(Int×Int) -> Option Int) (v1:Int×Int):Option Int:=
 if (decide (v1.2<a0)) then
 (b7a v1.2 12).bind fun v3=>
 (b46 v1.2 12).bind fun v4=>
 (a9z (i64 (1900+v3)) (i64 (v4+1))).bind fun v5=>
 r2 (i64 (v1.1+v5),i64 (v1.2+1))
 else
 some v1.1
def b5w (a0:Int):Option Int:=
 d8 FU (b8r a0) (0,0)
def b84 (a0:Int) (a1:Int) (a2:Int):Option (Int×Bool):=
 (if (decide (a0<1900)) then some true else some (decide (a0>2099))).bind fun v1=>
 (if v1 then some true else some (decide (a1<1))).bind fun v2=>
 (if v2 then some true else some (decide (a1>12))).bind fun v3=>
 (if v3 then some true else some (decide (a2<1))).bind fun v4=>
 (if v4 then some true else (a9z a0 a1).bind fun v5=>
 some (decide (a2>v5))).bind fun v6=>
 if v6 then
 some (0,false)
 else
 (b5w (i64 ((i64 ((i64 ((i64 (a0-1900))*12))+a1))-1))).bind fun v7=>
 some (i64 ((i64 (v7+a2))-1),true)
def a2f (a0:ByteArray):Option (Int×Bool):=
 (if ((a0.size:Int) != 10) then some true else (b03 a0 4).bind fun v1=>
 some (v1 != 45)).bind fun v2=>
 (if v2 then some true else (b03 a0 7).bind fun v3=>
 some (v3 != 45)).bind fun v4=>
 if v4 then
 some (0,false)
 else
 (b6q a0 0 4).bind fun v5=>
 (a7n v5).bind fun v6=>
 (b6q a0 5 7).bind fun v7=>
 (a7n v7).bind fun v8=>
 (b6q a0 8 (a0.size:Int)).bind fun v9=>
 (a7n v9).bind fun v10=>
 (if (!v6.2) then some true else some (!v8.2)).bind fun v11=>
 (if v11 then some true else some (!v10.2)).bind fun v12=>
 if v12 then
 some (0,false)
 else
 (b84 v6.1 v8.1 v10.1).bind fun v13=>
 some (v13.1,v13.2)
def a62 (v4:ByteArray×Int):Option Int:=
 (b03 v4.1 v4.2).bind fun v5=>
 if (v5==60) then
 if (v5==60) then
 some 1
 else
 some 0
 else
 if (v5==62) then
 if (v5==62) then
 some 1
 else
 some 0
 else
 if (v5==61) then
 if (v5==61) then
 some 1
 else
 some 0
 else
 if (v5==43) then
 if (v5==43) then
 some 1
 else
 some 0
 else
 if (v5==45) then
 if (v5==45) then
 some 1
 else
 some 0
 else
 if (v5==42) then
 if (v5==42) then
 some 1
 else
 some 0
 else
 if (v5==47) then
 if (v5==47) then
 some 1
 else
 some 0
 else
 if (v5==40) then
 if (v5==40) then
 some 1
 else
 some 0
 else
 if (v5==41) then
 if (v5==41) then
 some 1
 else
 some 0
 else
 if (v5==123) then
 if (v5==123) then
 some 1
 else
 some 0
 else
 if (v5==125) then
 if (v5==125) then
 some 1
 else
 some 0
 else
 if (v5==44) then
 if (v5==44) then
 some 1
 else
 some 0
 else
 if (v5==59) then
 some 1
 else
 some 0
def a3r (a0:ByteArray) (a1:Int):Option Int:=
 if (decide ((i64 (a1+1))<(a0.size:Int))) then
 (b6q a0 a1 (i64 (a1+2))).bind fun v1=>
 (if (v1.toList==b5n.toList) then some true else some (v1.toList==a5p.toList)).bind fun v2=>
 (if v2 then some true else some (v1.toList==b5h.toList)).bind fun v3=>
 if v3 then
 some 2
 else
 joinC a62 (a0,a1)
 else
 joinC a62 (a0,a1)
def u7 (v6:ByteArray×Int×Token×Int×Int×Bool):Option (Token×Int×Int):=
 if (!v6.2.2.2.2.2) then
 some ((⟨0,a1v,0⟩:Token),v6.2.1,4)
 else
 (b6q v6.1 v6.2.1 (i64 (v6.2.1+v6.2.2.2.2.1))).bind fun v7=>
 some ((⟨v6.2.2.2.1,v7,v6.2.1⟩:Token),i64 (v6.2.1+v6.2.2.2.2.1),0)
def a4y (a0:ByteArray) (a1:Int):Option (Token×Int×Int):=
 (if (decide (a1<0)) then some true else some (decide (a1>(a0.size:Int)))).bind fun v1=>
 if v1 then
 some ((⟨0,a1v,0⟩:Token),0,1)
 else
 (a65 a0 a1).bind fun v2=>
 if (v2==(a0.size:Int)) then
 some ((⟨0,a1v,v2⟩:Token),v2,0)
 else
 (b03 a0 v2).bind fun v3=>
 (a3n v3).bind fun v4=>
 if v4 then
 (a4i a0 v2 false).bind fun v5=>
 joinC u7 (a0,v2,(⟨0,a1v,0⟩:Token),1,v5,decide (v5 <= 12))
 else
 (b03 a0 v2).bind fun v8=>
 (a31 v8).bind fun v9=>
 if v9 then
 (a4i a0 v2 true).bind fun v10=>
 (b6q a0 v2 (i64 (v2+v10))).bind fun v11=>
 (a0o v11).bind fun v12=>
 joinC u7 (a0,v2,(⟨0,a1v,0⟩:Token),2,v10,v12.2.2.2)
 else
 (b03 a0 v2).bind fun v13=>
 if (v13==64) then
 if (decide ((i64 ((a0.size:Int)-v2)) >= 11)) then
 (b6q a0 (i64 (v2+1)) (i64 (v2+11))).bind fun v14=>
 (a2f v14).bind fun v15=>
 joinC u7 (a0,v2,(⟨0,a1v,0⟩:Token),3,11,v15.2)
 else
 joinC u7 (a0,v2,(⟨0,a1v,0⟩:Token),3,11,decide ((i64 ((a0.size:Int)-v2)) >= 11))
 else
 (a3r a0 v2).bind fun v16=>
 joinC u7 (a0,v2,(⟨0,a1v,0⟩:Token),4,v16,decide (v16>0))
def a52 (a0:ByteArray) (r2:((List Token)×Int) -> Option ((List Token)×Int×Int)) (v1:(List Token)×Int):Option ((List Token)×Int×Int):=
 (a4y a0 v1.2).bind fun v3=>
 if (v3.2.2 != 0) then
 some ([],v3.2.1,v3.2.2)
 else
 if (v3.1.Kind==0) then
 some (v1.1,0,0)
 else
 (a8q 32 v1.1 [v3.1]).bind fun v4=>
 r2 (v4,v3.2.1)
def a73 (a0:ByteArray):Option ((List Token)×Int×Int):=
 if (decide ((a0.size:Int)>8000)) then
 some ([],0,7)
 else
 d8 FU (a52 a0) ([],0)
def b0s (a0:ByteArray):Option ((Option pensionref5_reader)×Int×Int):=
 (a73 a0).bind fun v1=>
 if (v1.2.2 != 0) then
 some (none,v1.2.1,v1.2.2)
 else
 some (some (⟨v1.1,0,(a0.size:Int),false⟩:pensionref5_reader),0,0)
def a0e (a0:pensionref5_reader) (a1:ByteArray):Option Bool:=
 (if (!a0.bad) then some (decide (a0.at_<(a0.l.length:Int))) else some false).bind fun v1=>
 (if v1 then (i7 a0.l a0.at_).bind fun v2=>
 some (v2.Text.toList==a1.toList) else some false).bind fun v3=>
 some v3
def g7 (a0:pensionref5_reader) (a1:ByteArray):Option (Bool×pensionref5_reader):=
 (a0e a0 a1).bind fun v1=>
 if (!v1) then
 some (false,a0)
 else
 some (true,(⟨a0.l,i64 (a0.at_+1),a0.end_,a0.bad⟩:pensionref5_reader))
def s6 (a0:pensionref5_reader):Option pensionref5_reader:=
 some (⟨a0.l,a0.at_,a0.end_,true⟩:pensionref5_reader)
def c6 (a0:pensionref5_reader) (a1:ByteArray):Option pensionref5_reader:=
 (g7 a0 a1).bind fun v1=>
 if (!v1.1) then
 (s6 v1.2).bind fun v2=>
 some v2
 else
 some v1.2
def w7 (a0:pensionref5_reader) (a1:Int):Option Bool:=
 (if (!a0.bad) then some (decide (a0.at_<(a0.l.length:Int))) else some false).bind fun v1=>
 (if v1 then (i7 a0.l a0.at_).bind fun v2=>
 some (v2.Kind==a1) else some false).bind fun v3=>
 some v3
def b7k (a0:ByteArray) (r2:Int -> Option Bool) (v1:Int):Option Bool:=
 if (decide (v1<(a0.size:Int))) then
 (b03 a0 v1).bind fun v3=>
 (a3n v3).bind fun v4=>
 (if (!v4) then (if (v1==0) then some true else (b03 a0 v1).bind fun v5=>
 (a31 v5).bind fun v6=>
 (if (!v6) then (b03 a0 v1).bind fun v7=>
 some (v7 != 95) else some false).bind fun v8=>
 some v8).bind fun v9=>
 some v9 else some false).bind fun v10=>
 if v10 then
 some false
 else
 r2 (i64 (v1+1))
 else
 (if (decide ((a0.size:Int) >= 1)) then some (decide ((a0.size:Int) <= 12)) else some false).bind fun v11=>
 some v11
def b4a (a0:ByteArray):Option Bool:=
 d8 FU (b7k a0) 0
def b3k (a0:ByteArray):Option Bool:=
 if (a0.toList==b88.toList) then
 if (a0.toList==b88.toList) then
 some true
 else
 some false
 else
 if (a0.toList==b15.toList) then
 if (a0.toList==b15.toList) then
 some true
 else
 some false
 else
 if (a0.toList==c12.toList) then
 if (a0.toList==c12.toList) then
 some true
 else
 some false
 else
 if (a0.toList==a2h.toList) then
 if (a0.toList==a2h.toList) then
 some true
 else
 some false
 else
 if (a0.toList==a2m.toList) then
 if (a0.toList==a2m.toList) then
 some true
 else
 some false
 else
 if (a0.toList==b4f.toList) then
 if (a0.toList==b4f.toList) then
 some true
 else
 some false
 else
 if (a0.toList==b1r.toList) then
 if (a0.toList==b1r.toList) then
 some true
 else
 some false
 else
 if (a0.toList==b3z.toList) then
 if (a0.toList==b3z.toList) then
 some true
 else
 some false
 else
 if (a0.toList==a3y.toList) then
 if (a0.toList==a3y.toList) then
 some true
 else
 some false
 else
 if (a0.toList==b0e.toList) then
 if (a0.toList==b0e.toList) then
 some true
 else
 some false
 else
 if (a0.toList==a56.toList) then
 if (a0.toList==a56.toList) then
 some true
 else
 some false
 else
 if (a0.toList==b0r.toList) then
 if (a0.toList==b0r.toList) then
 some true
 else
 some false
 else
 if (a0.toList==a8g.toList) then
 if (a0.toList==a8g.toList) then
 some true
 else
 some false
 else
 if (a0.toList==b51.toList) then
 if (a0.toList==b51.toList) then
 some true
 else
 some false
 else
 if (a0.toList==b66.toList) then
 if (a0.toList==b66.toList) then
 some true
 else
 some false
 else
 if (a0.toList==b7o.toList) then
 if (a0.toList==b7o.toList) then
 some true
 else
 some false
 else
 if (a0.toList==c49.toList) then
 if (a0.toList==c49.toList) then
 some true
 else
 some false
 else
 if (a0.toList==b22.toList) then
 if (a0.toList==b22.toList) then
 some true
 else
 some false
 else
 if (a0.toList==a4h.toList) then
 if (a0.toList==a4h.toList) then
 some true
 else
 some false
 else
 if (a0.toList==b1l.toList) then
 if (a0.toList==b1l.toList) then
 some true
 else
 some false
 else
 if (a0.toList==a3v.toList) then
 if (a0.toList==a3v.toList) then
 some true
 else
 some false
 else
 if (a0.toList==b8c.toList) then
 some true
 else
 some false
def w9 (a0:ByteArray):Option Bool:=
 (b4a a0).bind fun v1=>
 (if v1 then (b3k a0).bind fun v2=>
 some (!v2) else some false).bind fun v3=>
 some v3
def a1c (a0:pensionref5_reader):Option (ByteArray×pensionref5_reader):=
 (w7 a0 1).bind fun v1=>
 (if (!v1) then some true else (i7 a0.l a0.at_).bind fun v2=>
 (w9 v2.Text).bind fun v3=>
 some (!v3)).bind fun v4=>
 if v4 then
 (s6 a0).bind fun v5=>
 some (a1v,v5)
 else
 (i7 a0.l (i64 ((i64 (a0.at_+1))-1))).bind fun v6=>
 some (v6.Text,(⟨a0.l,i64 (a0.at_+1),a0.end_,a0.bad⟩:pensionref5_reader))
def a2l (a0:Int):Option Int:=
 if (decide (a0<0)) then
 some (u64 ((u64 (i64 (-(i64 (a0+1)))))+1))
 else
 some (u64 (a0))
def c0x (v4:Int×Int):Option Int:=
 if (decide (v4.1 >= 256)) then
 (e09 .u64 v4.1 8).bind fun v5=>
 (b03 c4c (IntKind.u8.wrap (v5))).bind fun v6=>
 some (i64 ((i64 (v4.2+8))+(i64 (v6))))
 else
 (b03 c4c (IntKind.u8.wrap (v4.1))).bind fun v7=>
 some (i64 (v4.2+(i64 (v7))))
def c1c (v2:Int×Int):Option Int:=
 if (decide (v2.1 >= 65536)) then
 (e09 .u64 v2.1 16).bind fun v3=>
 joinC c0x (v3,i64 (v2.2+16))
 else
 joinC c0x (v2.1,v2.2)
def c2b (a0:Int):Option Int:=
 if (decide (a0 >= 4294967296)) then
 (e09 .u64 a0 32).bind fun v1=>
 joinC c1c (v1,32)
 else
 joinC c1c (a0,0)
def b3m (a0:Int):Option Int:=
 (c2b a0).bind fun v1=>
 some (i64 (64-v1))
def c1i (v21:Int×Int×Int×Int×Int×Int):Option (Int×Int):=
 (e09 .u64 (u64 ((u64 ((u64 (v21.2.2.2.2.1*4294967296))+v21.2.2.1))-(u64 (v21.2.2.2.2.2*v21.1)))) v21.2.1).bind fun v22=>
 some (u64 ((u64 (v21.2.2.2.1*4294967296))+v21.2.2.2.2.2),v22)
def c94 (v16:Int×Int×Int×Int×Int×Int×Int×Int) (r19:(Int×Int) -> Option (Int×Int)) (v18:Int×Int):Option (Int×Int):=
 (if (decide (v18.2 >= 4294967296)) then some true else some (decide ((u64 (v18.2*v16.2.2.2.1))>(u64 ((u64 (4294967296*v18.1))+v16.2.2.2.2.2.2.1))))).bind fun v20=>
 if v20 then
 if (decide ((u64 (v18.1+v16.2.2.1)) >= 4294967296)) then
 joinC c1i (v16.1,v16.2.1,v16.2.2.2.2.2.2.1,v16.2.2.2.2.2.2.2,u64 ((u64 ((u64 (v16.2.2.2.2.1*4294967296))+v16.2.2.2.2.2.1))-(u64 (v16.2.2.2.2.2.2.2*v16.1))),u64 (v18.2-1))
 else
 r19 (u64 (v18.1+v16.2.2.1),u64 (v18.2-1))
 else
 joinC c1i (v16.1,v16.2.1,v16.2.2.2.2.2.2.1,v16.2.2.2.2.2.2.2,u64 ((u64 ((u64 (v16.2.2.2.2.1*4294967296))+v16.2.2.2.2.2.1))-(u64 (v16.2.2.2.2.2.2.2*v16.1))),v18.2)
def c1s (v16:Int×Int×Int×Int×Int×Int×Int×Int):Option (Int×Int):=
 (if v16.2.2.1=0 then none else some (u64 (Int.tdiv (u64 ((u64 ((u64 (v16.2.2.2.2.1*4294967296))+v16.2.2.2.2.2.1))-(u64 (v16.2.2.2.2.2.2.2*v16.1)))) v16.2.2.1))).bind fun v17=>
 d8 FU (c94 v16) (u64 ((u64 ((u64 ((u64 (v16.2.2.2.2.1*4294967296))+v16.2.2.2.2.2.1))-(u64 (v16.2.2.2.2.2.2.2*v16.1))))-(u64 (v17*v16.2.2.1))),v17)
def d0d (v6:Int) (v11:Int) (v7:Int) (v5:Int) (v8:Int) (v9:Int) (v10:Int) (r14:(Int×Int) -> Option (Int×Int)) (v13:Int×Int):Option (Int×Int):=
 (if (decide (v13.1 >= 4294967296)) then some true else some (decide ((u64 (v13.1*(e9o .u64 v6 4294967295)))>(u64 ((u64 (4294967296*v13.2))+v11))))).bind fun v15=>
 if v15 then
 if (decide ((u64 (v13.2+v7)) >= 4294967296)) then
 joinC c1s (v6,u64 (v5),v7,e9o .u64 v6 4294967295,orK .u64 v8 v9,v11,e9o .u64 v10 4294967295,u64 (v13.1-1))
 else
 r14 (u64 (v13.1-1),u64 (v13.2+v7))
 else
 joinC c1s (v6,u64 (v5),v7,e9o .u64 v6 4294967295,orK .u64 v8 v9,v11,e9o .u64 v10 4294967295,v13.1)
def c1a (v2:Int×Int×Int):Option (Int×Int):=
 if (v2.1==0) then
 (if v2.2.2=0 then none else some (u64 (Int.tdiv v2.2.1 v2.2.2))).bind fun v3=>
 (b46 v2.2.1 v2.2.2).bind fun v4=>
 some (v3,v4)
 else
 (b3m v2.2.2).bind fun v5=>
 (f6b .u64 v2.2.2 (u64 (v5))).bind fun v6=>
 (e09 .u64 v6 32).bind fun v7=>
 (f6b .u64 v2.1 (u64 (v5))).bind fun v8=>
 (e09 .u64 v2.2.1 (u64 (64-(u64 (v5))))).bind fun v9=>
 (f6b .u64 v2.2.1 (u64 (v5))).bind fun v10=>
 (e09 .u64 v10 32).bind fun v11=>
 (if v7=0 then none else some (u64 (Int.tdiv (orK .u64 v8 v9) v7))).bind fun v12=>
 d8 FU (d0d v6 v11 v7 v5 v8 v9 v10) (v12,u64 ((orK .u64 v8 v9)-(u64 (v12*v7))))
def c0s (v1:Int×Int×Int):Option (Int×Int):=
 if (decide (v1.2.2 <= v1.1)) then
 none
 else
 joinC c1a (v1.1,v1.2.1,v1.2.2)
def b8k (a0:Int) (a1:Int) (a2:Int):Option (Int×Int):=
 if (a2==0) then
 none
 else
 joinC c0s (a0,a1,a2)
def a3i (a0:pensionref1_wide) (a1:Int):Option (pensionref1_wide×Int):=
 (b46 a0.hi a1).bind fun v1=>
 (b8k v1 a0.lo a1).bind fun v2=>
 (if a1=0 then none else some (u64 (Int.tdiv a0.hi a1))).bind fun v3=>
 some ((⟨v3,v2.1⟩:pensionref1_wide),v2.2)
def a9x (r2:(Int×Int) -> Option Int) (v1:Int×Int):Option Int:=
 if (v1.2 != 0) then
 (b46 v1.1 v1.2).bind fun v3=>
 r2 (v1.2,v3)
 else
 some v1.1
def a26 (a0:Int) (a1:Int):Option Int:=
 d8 FU a9x (a0,a1)
def a9o (a0:Bool) (a1:pensionref1_wide) (a2:Int):Option (Fraction×Int):=
 (a3i a1 a2).bind fun v1=>
 (a26 a2 v1.2).bind fun v2=>
 (a3i a1 v2).bind fun v3=>
 (if v2=0 then none else some (u64 (Int.tdiv a2 v2))).bind fun v4=>
 (if (v3.1.hi != 0) then some true else some (decide (v3.1.lo>1000000000000000))).bind fun v5=>
 (if v5 then some true else some (decide (v4>1000000000))).bind fun v6=>
 if v6 then
 some ((⟨0,0⟩:Fraction),2)
 else
 if a0 then
 some ((⟨i64 (-(i64 (v3.1.lo))),i64 (v4)⟩:Fraction),0)
 else
 some ((⟨i64 (v3.1.lo),i64 (v4)⟩:Fraction),0)
def a3o (a0:Int) (a1:Int):Option (Fraction×Int):=
 if (a1==0) then
 some ((⟨0,0⟩:Fraction),3)
 else
 (a2l a0).bind fun v1=>
 (a2l a1).bind fun v2=>
 (a9o ((decide (a0<0)) != (decide (a1<0))) (⟨0,v1⟩:pensionref1_wide) v2).bind fun v3=>
 some (v3.1,v3.2)
def a2w (v1:ByteArray×ByteArray×Int×Bool) (r3:(Fraction×Int×Int×Int) -> Option (Fraction×Int×Bool)) (v2:Fraction×Int×Int×Int):Option (Fraction×Int×Bool):=
 if (decide (v2.2.2.2<(i64 ((v1.1.size:Int)+(v1.2.1.size:Int))))) then
 (a4l v1.1 v1.2.1).bind fun v4=>
 (b03 v4 v2.2.2.2).bind fun v5=>
 if (decide (v2.2.2.2 >= (v1.1.size:Int))) then
 r3 (v2.1,i64 ((i64 (v2.2.1*10))+(i64 (IntKind.u8.wrap (v5-48)))),i64 (v2.2.2.1*10),i64 (v2.2.2.2+1))
 else
 r3 (v2.1,i64 ((i64 (v2.2.1*10))+(i64 (IntKind.u8.wrap (v5-48)))),v2.2.2.1,i64 (v2.2.2.2+1))
 else
 (a3o v2.2.1 v2.2.2.1).bind fun v6=>
 some (v6.1,v1.2.2.1,true)
def y2 (a0:ByteArray):Option (Fraction×Int×Bool):=
 (a0o a0).bind fun v1=>
 if (!v1.2.2.2) then
 some ((⟨0,0⟩:Fraction),0,false)
 else
 d8 FU (a2w v1) ((⟨0,0⟩:Fraction),0,1,0)
def y4 (a0:pensionref5_reader) (a1:Int) (a2:Int):Option (Int×pensionref5_reader):=
 (w7 a0 2).bind fun v1=>
 if v1 then
 (i7 a0.l a0.at_).bind fun v2=>
 (y2 v2.Text).bind fun v3=>
 (if (v3.2.1==2) then some (v3.1.Den==1) else some false).bind fun v4=>
 (if v4 then some (decide (v3.1.Num >= a1)) else some false).bind fun v5=>
 (if v5 then some (decide (v3.1.Num <= a2)) else some false).bind fun v6=>
 if v6 then
 some (v3.1.Num,(⟨a0.l,i64 (a0.at_+1),a0.end_,a0.bad⟩:pensionref5_reader))
 else
 (s6 a0).bind fun v7=>
 some (0,v7)
 else
 (s6 a0).bind fun v8=>
 some (0,v8)
def a5h (a0:ByteArray):Option Int:=
 (b6q a0 1 (a0.size:Int)).bind fun v1=>
 (a2f v1).bind fun v2=>
 some v2.1
def a8j (a0:ByteArray):Option Int:=
 if (a0.toList==a60.toList) then
 some 6
 else
 if (a0.toList==b3e.toList) then
 some 9
 else
 if (a0.toList==a8h.toList) then
 some 7
 else
 if (a0.toList==c9o.toList) then
 some 8
 else
 if (a0.toList==b82.toList) then
 some 10
 else
 if (a0.toList==a9g.toList) then
 some 5
 else
 some 0
def a5s (a0:ByteArray):Option Int:=
 if (a0.toList==b9t.toList) then
 some 1
 else
 if (a0.toList==a5a.toList) then
 some 2
 else
 if (a0.toList==b1h.toList) then
 some 3
 else
 if (a0.toList==b5i.toList) then
 some 4
 else
 if (a0.toList==b1g.toList) then
 some 5
 else
 some 0
def a8i (a0:ByteArray):Option Int:=
 if (a0.toList==c1u.toList) then
 some 1
 else
 if (a0.toList==d0l.toList) then
 some 2
 else
 if (a0.toList==c1n.toList) then
 some 3
 else
 if (a0.toList==c14.toList) then
 some 4
 else
 some 0
def a13 (a0:pensionref5_reader) (a1:Int):Option (Int×pensionref5_reader):=
 (w7 a0 1).bind fun v1=>
 if v1 then
 (i7 a0.l a0.at_).bind fun v2=>
 (a8j v2.Text).bind fun v3=>
 (a5s v2.Text).bind fun v4=>
 (a8i v2.Text).bind fun v5=>
 (i7 [v3,v4,v5] (i64 (a1-1))).bind fun v6=>
 (i7 [v3,v4,v5] (i64 (a1-1))).bind fun v7=>
 if (decide (v7>0)) then
 some (v7,(⟨a0.l,i64 (a0.at_+1),a0.end_,a0.bad⟩:pensionref5_reader))
 else
 (s6 a0).bind fun v8=>
 some (0,v8)
 else
 (s6 a0).bind fun v9=>
 some (0,v9)
def a19 (a0:Int):Option Int:=
 (if (decide (a0 >= 1)) then some (decide (a0 <= 3)) else some false).bind fun v1=>
 if v1 then
 some 0
 else
 (if (decide (a0 >= 4)) then some (decide (a0 <= 6)) else some false).bind fun v2=>
 if v2 then
 some 1
 else
 (if (decide (a0 >= 7)) then some (decide (a0 <= 20)) else some false).bind fun v3=>
 if v3 then
 some 2
 else
 if (a0==21) then
 some 3
 else
 some (-1:Int)
def b2n (v2:Int×Bool):Option Int:=
 if v2.2 then
 some 5
 else
 if (v2.1==9) then
 if (v2.1==9) then
 some 6
 else
 some 7
 else
 if (v2.1==10) then
 some 6
 else
 some 7
def a2i (v1:Int×Bool):Option Int:=
 if v1.2 then
 some 4
 else
 if (v1.1==7) then
 joinC b2n (v1.1,v1.1==7)
 else
 joinC b2n (v1.1,v1.1==8)
def b0w (a0:Int):Option Int:=
 if (a0==21) then
 some 0
 else
 if (a0==18) then
 some 1
 else
 if (a0==17) then
 some 2
 else
 if (a0==5) then
 some 3
 else
 if (a0==11) then
 joinC a2i (a0,a0==11)
 else
 if (a0==12) then
 joinC a2i (a0,a0==12)
 else
 if (a0==13) then
 joinC a2i (a0,a0==13)
 else
 if (a0==14) then
 joinC a2i (a0,a0==14)
 else
 if (a0==15) then
 joinC a2i (a0,a0==15)
 else
 joinC a2i (a0,a0==16)
def a9f (a0:Int):Option ByteArray:=
 if (a0==7) then
 some c9r
 else
 if (a0==8) then
 some b7v
 else
 if (a0==9) then
 some a87
 else
 if (a0==10) then
 some b9f
 else
 if (a0==11) then
 some c9p
 else
 if (a0==12) then
 some b5n
 else
 if (a0==13) then
 some b7c
 else
 if (a0==14) then
 some b5h
 else
 if (a0==15) then
 some d5a
 else
 if (a0==16) then
 some a5p
 else
 if (a0==17) then
 some b88
 else
 some c49
def a05 (a1:Int) (a0:pensionref5_reader) (r2:Int -> Option Int) (v1:Int):Option Int:=
 if (decide (v1 <= 18)) then
 (b0w v1).bind fun v3=>
 (if (v3==a1) then (a9f v1).bind fun v4=>
 (a0e a0 v4).bind fun v5=>
 some v5 else some false).bind fun v6=>
 if v6 then
 some v1
 else
 r2 (i64 (v1+1))
 else
 some 0
def a39 (a0:pensionref5_reader) (a1:Int):Option Int:=
 d8 FU (a05 a1 a0) 7
structure Ring_pensionref5_reader_expr where
 f_pensionref5_reader_expr:pensionref5_reader -> Int -> Option (Expr×pensionref5_reader)
 f_pensionref5_reader_factor:pensionref5_reader -> Option (Expr×pensionref5_reader)
 f_pensionref5_reader_call:pensionref5_reader -> Int -> Option (Expr×pensionref5_reader)
def y5 (R:Ring_pensionref5_reader_expr) (a1:Int) (r14:(pensionref5_reader×(List Expr)×Expr×Expr) -> Option (Expr×pensionref5_reader)) (v13:pensionref5_reader×(List Expr)×Expr×Expr):Option (Expr×pensionref5_reader):=
 if (!v13.1.bad) then
 (a39 v13.1 a1).bind fun v15=>
 if (v15==0) then
 some (v13.2.2.2,v13.1)
 else
 (R.f_pensionref5_reader_expr (⟨v13.1.l,i64 (v13.1.at_+1),v13.1.end_,v13.1.bad⟩:pensionref5_reader) (i64 (a1+1))).bind fun v16=>
 if (a1==4) then
 some ((⟨v15,(⟨0,0⟩:Fraction),0,a1v,[v13.2.2.2,v16.1]⟩:Expr),v16.2)
 else
 r14 (v16.2,v13.2.1,(⟨v13.2.2.1.Op,v13.2.2.1.Value,v13.2.2.1.Dim,v13.2.2.1.Name,[]⟩:Expr),(⟨v15,(⟨0,0⟩:Fraction),0,a1v,[v13.2.2.2,v16.1]⟩:Expr))
 else
 some (v13.2.2.2,v13.1)
def l8 (R:Ring_pensionref5_reader_expr) (a0:pensionref5_reader) (a1:Int):Option (Expr×pensionref5_reader):=
 if a0.bad then
 some ((⟨0,(⟨0,0⟩:Fraction),0,a1v,[]⟩:Expr),a0)
 else
 if (a1==0) then
 (g7 a0 b0e).bind fun v1=>
 if (!v1.1) then
 (R.f_pensionref5_reader_expr v1.2 1).bind fun v2=>
 some (v2.1,v2.2)
 else
 (R.f_pensionref5_reader_expr v1.2 0).bind fun v3=>
 (c6 v3.2 b8c).bind fun v4=>
 (R.f_pensionref5_reader_expr v4 0).bind fun v5=>
 (c6 v5.2 b4f).bind fun v6=>
 (R.f_pensionref5_reader_expr v6 0).bind fun v7=>
 some ((⟨21,(⟨0,0⟩:Fraction),0,a1v,[v3.1,v5.1,v7.1]⟩:Expr),v7.2)
 else
 if (a1==3) then
 (g7 a0 b7o).bind fun v8=>
 if v8.1 then
 (R.f_pensionref5_reader_expr v8.2 3).bind fun v9=>
 some ((⟨5,(⟨0,0⟩:Fraction),0,a1v,[v9.1]⟩:Expr),v9.2)
 else
 (R.f_pensionref5_reader_expr v8.2 4).bind fun v10=>
 some (v10.1,v10.2)
 else
 if (a1==7) then
 (R.f_pensionref5_reader_factor a0).bind fun v11=>
 some (v11.1,v11.2)
 else
 (R.f_pensionref5_reader_expr a0 (i64 (a1+1))).bind fun v12=>
 d8 FU (y5 R a1) (v12.2,[],(⟨0,(⟨0,0⟩:Fraction),0,a1v,[]⟩:Expr),v12.1)
def k7 (R:Ring_pensionref5_reader_expr) (a0:pensionref5_reader):Option (Expr×pensionref5_reader):=
 (w7 a0 2).bind fun v1=>
 if v1 then
 (i7 a0.l a0.at_).bind fun v2=>
 (y2 v2.Text).bind fun v3=>
 some ((⟨1,v3.1,v3.2.1,a1v,[]⟩:Expr),(⟨a0.l,i64 (a0.at_+1),a0.end_,a0.bad⟩:pensionref5_reader))
 else
 (g7 a0 b7v).bind fun v4=>
 if v4.1 then
 (R.f_pensionref5_reader_expr v4.2 7).bind fun v5=>
 some ((⟨4,(⟨0,0⟩:Fraction),0,a1v,[v5.1]⟩:Expr),v5.2)
 else
 (g7 v4.2 a8v).bind fun v6=>
 if v6.1 then
 (R.f_pensionref5_reader_expr v6.2 0).bind fun v7=>
 (c6 v7.2 b0y).bind fun v8=>
 some (v7.1,v8)
 else
 (g7 v6.2 b15).bind fun v9=>
 if v9.1 then
 (c6 v9.2 a8v).bind fun v10=>
 (y4 v10 1 45).bind fun v11=>
 (c6 v11.2 b0y).bind fun v12=>
 some ((⟨3,(⟨v11.1,1⟩:Fraction),0,a1v,[]⟩:Expr),v12)
 else
 (a0e v9.2 b1r).bind fun v13=>
 if v13 then
 (R.f_pensionref5_reader_call v9.2 6).bind fun v14=>
 some (v14.1,v14.2)
 else
 (a0e v9.2 b66).bind fun v15=>
 if v15 then
 (R.f_pensionref5_reader_call v9.2 19).bind fun v16=>
 some (v16.1,v16.2)
 else
 (a0e v9.2 b51).bind fun v17=>
 if v17 then
 (R.f_pensionref5_reader_call v9.2 20).bind fun v18=>
 some (v18.1,v18.2)
 else
 (a1c v9.2).bind fun v19=>
 some ((⟨2,(⟨0,0⟩:Fraction),0,v19.1,[]⟩:Expr),v19.2)
def a38 (R:Ring_pensionref5_reader_expr) (a0:pensionref5_reader) (a1:Int):Option (Expr×pensionref5_reader):=
 (c6 (⟨a0.l,i64 (a0.at_+1),a0.end_,a0.bad⟩:pensionref5_reader) a8v).bind fun v1=>
 (R.f_pensionref5_reader_expr v1 0).bind fun v2=>
 (a19 a1).bind fun v3=>
 if (v3==2) then
 (c6 v2.2 c2l).bind fun v4=>
 (i7 [v2.1] 0).bind fun v5=>
 (R.f_pensionref5_reader_expr v4 0).bind fun v6=>
 (c6 v6.2 b0y).bind fun v7=>
 some ((⟨a1,(⟨0,0⟩:Fraction),0,a1v,[v5,v6.1]⟩:Expr),v7)
 else
 (c6 v2.2 b0y).bind fun v8=>
 some ((⟨a1,(⟨0,0⟩:Fraction),0,a1v,[v2.1]⟩:Expr),v8)
def d7:Nat -> Ring_pensionref5_reader_expr
 | 0=>⟨fun _ _=>none,fun _=>none,fun _ _=>none⟩
 | n+1=>⟨l8 (d7 n),k7 (d7 n),a38 (d7 n)⟩
def a25 (a0:pensionref5_reader) (a1:Int):Option (Expr×pensionref5_reader):=(d7 FU).f_pensionref5_reader_expr a0 a1
def a1t (v5:pensionref5_reader×(List Credit)×(List Index)×(List Let)×(List Grant)×(List Reduce)×Version×Credit):Option (pensionref5_reader×Version×(List Credit)×(List Index)×(List Let)×(List Grant)×(List Reduce)):=
 (a8q 16 v5.2.1 [v5.2.2.2.2.2.2.2]).bind fun v6=>
 (c6 v5.1 a0j).bind fun v7=>
 some (v7,(⟨v5.2.2.2.2.2.2.1.From,v5.2.2.2.2.2.2.1.Rounding,[],[],[],[],[]⟩:Version),v6,v5.2.2.1,v5.2.2.2.1,v5.2.2.2.2.1,v5.2.2.2.2.2.1)
def a47 (v16:pensionref5_reader×(List Credit)×(List Index)×(List Let)×(List Grant)×(List Reduce)×Version×Index):Option (pensionref5_reader×Version×(List Credit)×(List Index)×(List Let)×(List Grant)×(List Reduce)):=
 (a8q 24 v16.2.2.1 [v16.2.2.2.2.2.2.2]).bind fun v17=>
 (c6 v16.1 a0j).bind fun v18=>
 some (v18,(⟨v16.2.2.2.2.2.2.1.From,v16.2.2.2.2.2.2.1.Rounding,[],[],[],[],[]⟩:Version),v16.2.1,v17,v16.2.2.2.1,v16.2.2.2.2.1,v16.2.2.2.2.2.1)
def a1u (v14:pensionref5_reader×(List Credit)×(List Index)×(List Let)×(List Grant)×(List Reduce)×Version×Index):Option (pensionref5_reader×Version×(List Credit)×(List Index)×(List Let)×(List Grant)×(List Reduce)):=
 if (v14.2.2.2.2.2.2.2.Factor.Den==0) then
 (s6 v14.1).bind fun v15=>
 joinC a47 (v15,v14.2.1,v14.2.2.1,v14.2.2.2.1,v14.2.2.2.2.1,v14.2.2.2.2.2.1,(⟨v14.2.2.2.2.2.2.1.From,v14.2.2.2.2.2.2.1.Rounding,[],[],[],[],[]⟩:Version),v14.2.2.2.2.2.2.2)
 else
 joinC a47 (v14.1,v14.2.1,v14.2.2.1,v14.2.2.2.1,v14.2.2.2.2.1,v14.2.2.2.2.2.1,(⟨v14.2.2.2.2.2.2.1.From,v14.2.2.2.2.2.2.1.Rounding,[],[],[],[],[]⟩:Version),v14.2.2.2.2.2.2.2)
def a3d (a0:pensionref5_reader) (a1:Version) (a2:List Credit) (a3:List Index) (a4:List Let) (a5:List Grant) (a6:List Reduce):Option (pensionref5_reader×Version×(List Credit)×(List Index)×(List Let)×(List Grant)×(List Reduce)):=
 (g7 a0 a2h).bind fun v1=>
 if v1.1 then
 (a13 v1.2 1).bind fun v2=>
 (g7 v2.2 a8g).bind fun v3=>
 if v3.1 then
 (y4 v3.2 1 73049).bind fun v4=>
 joinC a1t (v4.2,a2,a3,a4,a5,a6,(⟨a1.From,a1.Rounding,[],[],[],[],[]⟩:Version),(⟨v2.1,v4.1⟩:Credit))
 else
 joinC a1t (v3.2,a2,a3,a4,a5,a6,(⟨a1.From,a1.Rounding,[],[],[],[],[]⟩:Version),(⟨v2.1,0⟩:Credit))
 else
 (g7 v1.2 a56).bind fun v8=>
 if v8.1 then
 (y4 v8.2 1900 2099).bind fun v9=>
 (w7 v9.2 2).bind fun v10=>
 if v10 then
 (i7 v9.2.l v9.2.at_).bind fun v11=>
 (y2 v11.Text).bind fun v12=>
 (if (v12.2.1==2) then some (decide (v12.1.Num>0)) else some false).bind fun v13=>
 if v13 then
 joinC a1u ((⟨v9.2.l,i64 (v9.2.at_+1),v9.2.end_,v9.2.bad⟩:pensionref5_reader),a2,a3,a4,a5,a6,(⟨a1.From,a1.Rounding,[],[],[],[],[]⟩:Version),(⟨v9.1,v12.1⟩:Index))
 else
 joinC a1u (v9.2,a2,a3,a4,a5,a6,(⟨a1.From,a1.Rounding,[],[],[],[],[]⟩:Version),(⟨v9.1,(⟨0,0⟩:Fraction)⟩:Index))
 else
 joinC a1u (v9.2,a2,a3,a4,a5,a6,(⟨a1.From,a1.Rounding,[],[],[],[],[]⟩:Version),(⟨v9.1,(⟨0,0⟩:Fraction)⟩:Index))
 else
 (g7 v8.2 b0r).bind fun v19=>
 if v19.1 then
 (a1c v19.2).bind fun v20=>
 (c6 v20.2 b7c).bind fun v21=>
 (a25 v21 0).bind fun v22=>
 (a8q 88 a4 [(⟨v20.1,v22.1⟩:Let)]).bind fun v23=>
 (c6 v22.2 a0j).bind fun v24=>
 some (v24,(⟨a1.From,a1.Rounding,[],[],[],[],[]⟩:Version),a2,a3,v23,a5,a6)
 else
 (g7 v19.2 a3y).bind fun v25=>
 if v25.1 then
 (a13 v25.2 2).bind fun v26=>
 (c6 v26.2 b0e).bind fun v27=>
 (a25 v27 0).bind fun v28=>
 (c6 v28.2 b22).bind fun v29=>
 (a25 v29 0).bind fun v30=>
 (a8q 152 a5 [(⟨v26.1,v28.1,v30.1⟩:Grant)]).bind fun v31=>
 (c6 v30.2 a0j).bind fun v32=>
 some (v32,(⟨a1.From,a1.Rounding,[],[],[],[],[]⟩:Version),a2,a3,a4,v31,a6)
 else
 (g7 v25.2 a4h).bind fun v33=>
 if v33.1 then
 (a13 v33.2 2).bind fun v34=>
 (c6 v34.2 c12).bind fun v35=>
 (a25 v35 0).bind fun v36=>
 (a8q 80 a6 [(⟨v34.1,v36.1⟩:Reduce)]).bind fun v37=>
 (c6 v36.2 a0j).bind fun v38=>
 some (v38,(⟨a1.From,a1.Rounding,[],[],[],[],[]⟩:Version),a2,a3,a4,a5,v37)
 else
 (s6 v33.2).bind fun v39=>
 (c6 v39 a0j).bind fun v40=>
 some (v40,(⟨a1.From,a1.Rounding,[],[],[],[],[]⟩:Version),a2,a3,a4,a5,a6)
def a0l (r12:(pensionref5_reader×(List Credit)×(List Index)×(List Let)×(List Grant)×(List Reduce)×Version×(List Credit)×(List Index)×(List Let)×(List Grant)×(List Reduce)×Version) -> Option (Version×pensionref5_reader)) (v11:pensionref5_reader×(List Credit)×(List Index)×(List Let)×(List Grant)×(List Reduce)×Version×(List Credit)×(List Index)×(List Let)×(List Grant)×(List Reduce)×Version):Option (Version×pensionref5_reader):=
 if (!v11.1.bad) then
 (g7 v11.1 a34).bind fun v13=>
 if (!v13.1) then
 (a3d v13.2 (⟨v11.2.2.2.2.2.2.2.2.2.2.2.2.From,v11.2.2.2.2.2.2.2.2.2.2.2.2.Rounding,[],[],[],[],[]⟩:Version) v11.2.2.2.2.2.2.2.1 v11.2.2.2.2.2.2.2.2.1 v11.2.2.2.2.2.2.2.2.2.1 v11.2.2.2.2.2.2.2.2.2.2.1 v11.2.2.2.2.2.2.2.2.2.2.2.1).bind fun v14=>
 r12 (v14.1,v11.2.1,v11.2.2.1,v11.2.2.2.1,v11.2.2.2.2.1,v11.2.2.2.2.2.1,(⟨v11.2.2.2.2.2.2.1.From,v11.2.2.2.2.2.2.1.Rounding,[],[],[],[],[]⟩:Version),v14.2.2.1,v14.2.2.2.1,v14.2.2.2.2.1,v14.2.2.2.2.2.1,v14.2.2.2.2.2.2,(⟨v14.2.1.From,v14.2.1.Rounding,[],[],[],[],[]⟩:Version))
 else
 some ((⟨v11.2.2.2.2.2.2.2.2.2.2.2.2.From,v11.2.2.2.2.2.2.2.2.2.2.2.2.Rounding,v11.2.2.2.2.2.2.2.1,v11.2.2.2.2.2.2.2.2.1,v11.2.2.2.2.2.2.2.2.2.1,v11.2.2.2.2.2.2.2.2.2.2.1,v11.2.2.2.2.2.2.2.2.2.2.2.1⟩:Version),v13.2)
 else
 some ((⟨v11.2.2.2.2.2.2.2.2.2.2.2.2.From,v11.2.2.2.2.2.2.2.2.2.2.2.2.Rounding,v11.2.2.2.2.2.2.2.1,v11.2.2.2.2.2.2.2.2.1,v11.2.2.2.2.2.2.2.2.2.1,v11.2.2.2.2.2.2.2.2.2.2.1,v11.2.2.2.2.2.2.2.2.2.2.2.1⟩:Version),v11.1)
def a3q (v5:pensionref5_reader×(List Credit)×(List Index)×(List Let)×(List Grant)×(List Reduce)×Version×(List Credit)×(List Index)×(List Let)×(List Grant)×(List Reduce)×Version):Option (Version×pensionref5_reader):=
 (c6 v5.1 b3b).bind fun v6=>
 (c6 v6 b1l).bind fun v7=>
 (a13 v7 3).bind fun v8=>
 (y4 v8.2 1 100000).bind fun v9=>
 (c6 v9.2 a0j).bind fun v10=>
 d8 FU a0l (v10,v5.2.1,v5.2.2.1,v5.2.2.2.1,v5.2.2.2.2.1,v5.2.2.2.2.2.1,(⟨v5.2.2.2.2.2.2.1.From,v5.2.2.2.2.2.2.1.Rounding,[],[],[],[],[]⟩:Version),v5.2.2.2.2.2.2.2.1,v5.2.2.2.2.2.2.2.2.1,v5.2.2.2.2.2.2.2.2.2.1,v5.2.2.2.2.2.2.2.2.2.2.1,v5.2.2.2.2.2.2.2.2.2.2.2.1,(⟨v5.2.2.2.2.2.2.2.2.2.2.2.2.From,(⟨v8.1,v9.1⟩:Rounding),[],[],[],[],[]⟩:Version))
def a2r (a0:pensionref5_reader):Option (Version×pensionref5_reader):=
 (c6 a0 b3z).bind fun v1=>
 (w7 v1 3).bind fun v2=>
 if v2 then
 (i7 v1.l v1.at_).bind fun v3=>
 (a5h v3.Text).bind fun v4=>
 joinC a3q ((⟨v1.l,i64 (v1.at_+1),v1.end_,v1.bad⟩:pensionref5_reader),[],[],[],[],[],(⟨0,(⟨0,0⟩:Rounding),[],[],[],[],[]⟩:Version),[],[],[],[],[],(⟨v4,(⟨0,0⟩:Rounding),[],[],[],[],[]⟩:Version))
 else
 (s6 v1).bind fun v15=>
 joinC a3q (v15,[],[],[],[],[],(⟨0,(⟨0,0⟩:Rounding),[],[],[],[],[]⟩:Version),[],[],[],[],[],(⟨0,(⟨0,0⟩:Rounding),[],[],[],[],[]⟩:Version))
def a94 (a0:pensionref5_reader):Option Int:=
 if (decide (a0.at_<(a0.l.length:Int))) then
 (i7 a0.l a0.at_).bind fun v1=>
 some v1.At
 else
 some a0.end_
def a84 (a0:Int):Option Bool:=
 (if (decide (a0 >= 0)) then some (decide (a0 <= 73048)) else some false).bind fun v1=>
 some v1
def a5b (a0:Rounding):Option Bool:=
 (if (decide (a0.Mode >= 1)) then some (decide (a0.Mode <= 4)) else some false).bind fun v1=>
 (if v1 then some (decide (a0.Unit >= 1)) else some false).bind fun v2=>
 (if v2 then some (decide (a0.Unit <= 100000)) else some false).bind fun v3=>
 some v3
def b81 (a0:Int) (a1:Int) (r2:((List ByteArray)×Int) -> Option ByteArray) (v1:(List ByteArray)×Int):Option ByteArray:=
 (if (decide (v1.2<(v1.1.length:Int))) then some (decide (a0>0)) else some false).bind fun v3=>
 if v3 then
 (if (a1==1) then (i7 v1.1 v1.2).bind fun v4=>
 (i7 v1.1 v1.2).bind fun v5=>
 (a8j v5).bind fun v6=>
 some (v6==a0) else some false).bind fun v7=>
 (if v7 then some true else (if (a1==2) then (i7 v1.1 v1.2).bind fun v8=>
 (i7 v1.1 v1.2).bind fun v9=>
 (a5s v9).bind fun v10=>
 some (v10==a0) else some false).bind fun v11=>
 some v11).bind fun v12=>
 (if v12 then some true else (if (a1==3) then (i7 v1.1 v1.2).bind fun v13=>
 (i7 v1.1 v1.2).bind fun v14=>
 (a8i v14).bind fun v15=>
 some (v15==a0) else some false).bind fun v16=>
 some v16).bind fun v17=>
 if v17 then
 (i7 v1.1 v1.2).bind fun v18=>
 (i7 v1.1 v1.2).bind fun v19=>
 some v19
 else
 r2 (v1.1,i64 (v1.2+1))
 else
 some a1v
def a3m (a0:Int) (a1:Int):Option ByteArray:=
 d8 FU (b81 a0 a1) ([a60,b3e,a8h,c9o,b82,a9g,b9t,a5a,b1h,b5i,b1g,c1u,d0l,c1n,c14],0)
def a03 (a0:Fraction):Option Bool:=
 (if (decide (a0.Den >= 1)) then some (decide (a0.Den <= 1000000000)) else some false).bind fun v1=>
 (if v1 then some (decide (a0.Num >= (-1000000000000000:Int))) else some false).bind fun v2=>
 (if v2 then some (decide (a0.Num <= 1000000000000000)) else some false).bind fun v3=>
 (if v3 then (a2l a0.Num).bind fun v4=>
 (a26 v4 (u64 (a0.Den))).bind fun v5=>
 some (v5==1) else some false).bind fun v6=>
 some v6
def b1j (a1:Int) (r2:(Int×ByteArray) -> Option ByteArray) (v1:Int×ByteArray):Option ByteArray:=
 (if (decide (v1.1>0)) then some true else some (decide ((v1.2.size:Int)<a1))).bind fun v3=>
 if v3 then
 (b46 v1.1 10).bind fun v4=>
 (b46 v1.1 10).bind fun v5=>
 (b6q a4e v4 (i64 (v5+1))).bind fun v6=>
 (a4l v6 v1.2).bind fun v7=>
 (b7a v1.1 10).bind fun v8=>
 r2 (v8,v7)
 else
 some v1.2
def a57 (a0:Int) (a1:Int):Option ByteArray:=
 d8 FU (b1j a1) (a0,a1v)
def a3s (v5:Fraction×ByteArray):Option ByteArray:=
 if (v5.1.Den != 1) then
 (a4l v5.2 b9f).bind fun v6=>
 (a57 v5.1.Den 1).bind fun v7=>
 (a4l v6 v7).bind fun v8=>
 some v8
 else
 some v5.2
def a2q (a0:Fraction):Option ByteArray:=
 (a03 a0).bind fun v1=>
 if (!v1) then
 some a1v
 else
 (a2l a0.Num).bind fun v2=>
 (a57 (i64 (v2)) 1).bind fun v3=>
 if (decide (a0.Num<0)) then
 (a4l b7v v3).bind fun v4=>
 joinC a3s (a0,v4)
 else
 joinC a3s (a0,v3)
def a6x (v11:Int×ByteArray×Int) (r13:(ByteArray×Int×Int) -> Option (ByteArray×Bool)) (v12:ByteArray×Int×Int):Option (ByteArray×Bool):=
 if (decide (v12.2.1>0)) then
 (b7a v12.2.1 v12.2.2).bind fun v14=>
 (b7a v12.2.1 v12.2.2).bind fun v15=>
 (b6q a4e v14 (i64 (v15+1))).bind fun v16=>
 (a4l v12.1 v16).bind fun v17=>
 (b46 v12.2.1 v12.2.2).bind fun v18=>
 (b7a v12.2.2 10).bind fun v19=>
 r13 (v17,v18,v19)
 else
 (i7 [a1v,e8r,e62] (i64 (v11.1-2))).bind fun v20=>
 (i7 [a1v,e8r,e62] (i64 (v11.1-2))).bind fun v21=>
 (a4l v12.1 v21).bind fun v22=>
 some (v22,true)
def a49 (v11:Int×ByteArray×Int):Option (ByteArray×Bool):=
 d8 FU (a6x v11) (v11.2.1,v11.2.2,1000)
def s7 (a0:Fraction) (a1:Int):Option (ByteArray×Bool):=
 (a03 a0).bind fun v1=>
 (if (!v1) then some true else some (decide (a0.Num<0))).bind fun v2=>
 (if v2 then some true else (b46 10000 a0.Den).bind fun v3=>
 some (v3 != 0)).bind fun v4=>
 (if v4 then some true else some (decide (a1<2))).bind fun v5=>
 (if v5 then some true else some (decide (a1>4))).bind fun v6=>
 if v6 then
 some (a1v,false)
 else
 (b7a a0.Num a0.Den).bind fun v7=>
 if (decide (v7>999999999)) then
 some (a1v,false)
 else
 (a2q (⟨v7,1⟩:Fraction)).bind fun v8=>
 (b7a 10000 a0.Den).bind fun v9=>
 if (decide ((i64 ((i64 (a0.Num-(i64 (v7*a0.Den))))*v9))>0)) then
 (a4l v8 a9m).bind fun v10=>
 joinC a49 (a1,v10,i64 ((i64 (a0.Num-(i64 (v7*a0.Den))))*v9))
 else
 joinC a49 (a1,v8,i64 ((i64 (a0.Num-(i64 (v7*a0.Den))))*v9))
structure Ring_pensionref5_Depth where
 f_pensionref5_Depth:Expr -> Option Int
def a89 (R:Ring_pensionref5_Depth) (r2:(Expr×Int×Int) -> Option Int) (v1:Expr×Int×Int):Option Int:=
 if (decide (v1.2.2<(v1.1.Args.length:Int))) then
 (i7 v1.1.Args v1.2.2).bind fun v3=>
 (R.f_pensionref5_Depth v3).bind fun v4=>
 r2 (v1.1,max v1.2.1 v4,i64 (v1.2.2+1))
 else
 some (i64 (v1.2.1+1))
def a5z (R:Ring_pensionref5_Depth) (a0:Expr):Option Int:=
 d8 FU (a89 R) (a0,0,0)
def a08:Nat -> Ring_pensionref5_Depth
 | 0=>⟨fun _=>none⟩
 | n+1=>⟨a5z (a08 n)⟩
def b5q (a0:Expr):Option Int:=(a08 FU).f_pensionref5_Depth a0
structure Ring_pensionref5_Size where
 f_pensionref5_Size:Expr -> Option Int
def a8r (R:Ring_pensionref5_Size) (r2:(Expr×Int×Int) -> Option Int) (v1:Expr×Int×Int):Option Int:=
 if (decide (v1.2.2<(v1.1.Args.length:Int))) then
 (i7 v1.1.Args v1.2.2).bind fun v3=>
 (R.f_pensionref5_Size v3).bind fun v4=>
 r2 (v1.1,i64 (v1.2.1+v4),i64 (v1.2.2+1))
 else
 some v1.2.1
def a6y (R:Ring_pensionref5_Size) (a0:Expr):Option Int:=
 d8 FU (a8r R) (a0,1,0)
def a0f:Nat -> Ring_pensionref5_Size
 | 0=>⟨fun _=>none⟩
 | n+1=>⟨a6y (a0f n)⟩
def b71 (a0:Expr):Option Int:=(a0f FU).f_pensionref5_Size a0
structure Ring_pensionref5_formed where
 f_pensionref5_formed:Expr -> Option Bool
def a58 (R:Ring_pensionref5_formed) (v3:Bool) (r14:(Expr×Int) -> Option Bool) (v13:Expr×Int):Option Bool:=
 if (decide (v13.2<(v13.1.Args.length:Int))) then
 (i7 v13.1.Args v13.2).bind fun v15=>
 (R.f_pensionref5_formed v15).bind fun v16=>
 if (!v16) then
 some false
 else
 r14 (v13.1,i64 (v13.2+1))
 else
 some v3
def p7 (R:Ring_pensionref5_formed) (a0:Expr):Option Bool:=
 (a19 a0.Op).bind fun v1=>
 if ((a0.Args.length:Int) != v1) then
 some false
 else
 (if ((a0.Value.Num==0)&&((a0.Value.Den==0)&&(true))) then some (a0.Dim==0) else some false).bind fun v2=>
 (if v2 then some (a0.Name.toList==a1v.toList) else some false).bind fun v3=>
 if (a0.Op==1) then
 (s7 a0.Value a0.Dim).bind fun v4=>
 (if v4.2 then some (a0.Name.toList==a1v.toList) else some false).bind fun v5=>
 some v5
 else
 if (a0.Op==2) then
 (if ((a0.Value.Num==0)&&((a0.Value.Den==0)&&(true))) then some (a0.Dim==0) else some false).bind fun v6=>
 (if v6 then (w9 a0.Name).bind fun v7=>
 some v7 else some false).bind fun v8=>
 some v8
 else
 if (a0.Op==3) then
 (if (a0.Dim==0) then some (a0.Name.toList==a1v.toList) else some false).bind fun v9=>
 (if v9 then some (a0.Value.Den==1) else some false).bind fun v10=>
 (if v10 then some (decide (a0.Value.Num >= 1)) else some false).bind fun v11=>
 (if v11 then some (decide (a0.Value.Num <= 45)) else some false).bind fun v12=>
 some v12
 else
 d8 FU (a58 R v3) (a0,0)
def i6:Nat -> Ring_pensionref5_formed
 | 0=>⟨fun _=>none⟩
 | n+1=>⟨p7 (i6 n)⟩
def b41 (a0:Expr):Option Bool:=(i6 FU).f_pensionref5_formed a0
def a02 (a0:Expr):Option Bool:=
 (b5q a0).bind fun v1=>
 (if (decide (v1 <= 10)) then (b71 a0).bind fun v2=>
 some (decide (v2 <= 60)) else some false).bind fun v3=>
 (if v3 then (b41 a0).bind fun v4=>
 some v4 else some false).bind fun v5=>
 some v5
def a27 (r45:(Version×Int) -> Option Bool) (v44:Version×Int):Option Bool:=
 if (decide (v44.2<(v44.1.Reduces.length:Int))) then
 (i7 v44.1.Reduces v44.2).bind fun v46=>
 (a3m v46.Benefit 2).bind fun v47=>
 (if (v47.toList==a1v.toList) then some true else (i7 v44.1.Reduces v44.2).bind fun v48=>
 (a02 v48.By).bind fun v49=>
 some (!v49)).bind fun v50=>
 if v50 then
 some false
 else
 r45 (v44.1,i64 (v44.2+1))
 else
 some true
def a24 (r35:(Version×Int) -> Option Bool) (v34:Version×Int):Option Bool:=
 if (decide (v34.2<(v34.1.Grants.length:Int))) then
 (i7 v34.1.Grants v34.2).bind fun v36=>
 (a3m v36.Benefit 2).bind fun v37=>
 (if (v37.toList==a1v.toList) then some true else (i7 v34.1.Grants v34.2).bind fun v38=>
 (a02 v38.If).bind fun v39=>
 some (!v39)).bind fun v40=>
 (if v40 then some true else (i7 v34.1.Grants v34.2).bind fun v41=>
 (a02 v41.Pay).bind fun v42=>
 some (!v42)).bind fun v43=>
 if v43 then
 some false
 else
 r35 (v34.1,i64 (v34.2+1))
 else
 d8 FU a27 (v34.1,0)
def a23 (r28:(Version×Int) -> Option Bool) (v27:Version×Int):Option Bool:=
 if (decide (v27.2<(v27.1.Lets.length:Int))) then
 (i7 v27.1.Lets v27.2).bind fun v29=>
 (w9 v29.Name).bind fun v30=>
 (if (!v30) then some true else (i7 v27.1.Lets v27.2).bind fun v31=>
 (a02 v31.Body).bind fun v32=>
 some (!v32)).bind fun v33=>
 if v33 then
 some false
 else
 r28 (v27.1,i64 (v27.2+1))
 else
 d8 FU a24 (v27.1,0)
def a21 (r18:(Version×Int) -> Option Bool) (v17:Version×Int):Option Bool:=
 if (decide (v17.2<(v17.1.Series.length:Int))) then
 (i7 v17.1.Series v17.2).bind fun v19=>
 (s7 v19.Factor 2).bind fun v20=>
 (i7 v17.1.Series v17.2).bind fun v21=>
 (if (decide (v21.Year<1900)) then some true else (i7 v17.1.Series v17.2).bind fun v22=>
 some (decide (v22.Year>2099))).bind fun v23=>
 (if v23 then some true else some (!v20.2)).bind fun v24=>
 (if v24 then some true else (i7 v17.1.Series v17.2).bind fun v25=>
 some (decide (v25.Factor.Num<1))).bind fun v26=>
 if v26 then
 some false
 else
 r18 (v17.1,i64 (v17.2+1))
 else
 d8 FU a23 (v17.1,0)
def a2b (r10:(Version×Int) -> Option Bool) (v9:Version×Int):Option Bool:=
 if (decide (v9.2<(v9.1.Credits.length:Int))) then
 (i7 v9.1.Credits v9.2).bind fun v11=>
 (a3m v11.Kind 1).bind fun v12=>
 (if (v12.toList==a1v.toList) then some true else (i7 v9.1.Credits v9.2).bind fun v13=>
 some (decide (v13.Limit<0))).bind fun v14=>
 (if v14 then some true else (i7 v9.1.Credits v9.2).bind fun v15=>
 some (decide (v15.Limit>73049))).bind fun v16=>
 if v16 then
 some false
 else
 r10 (v9.1,i64 (v9.2+1))
 else
 d8 FU a21 (v9.1,0)
def a3l (a0:Version):Option Bool:=
 (a84 a0.From).bind fun v1=>
 (if (!v1) then some true else (a5b a0.Rounding).bind fun v2=>
 some (!v2)).bind fun v3=>
 (if v3 then some true else some (decide ((a0.Credits.length:Int)>6))).bind fun v4=>
 (if v4 then some true else some (decide ((a0.Series.length:Int)>20))).bind fun v5=>
 (if v5 then some true else some (decide ((a0.Lets.length:Int)>10))).bind fun v6=>
 (if v6 then some true else some (decide ((a0.Grants.length:Int)>5))).bind fun v7=>
 (if v7 then some true else some (decide ((a0.Reduces.length:Int)>5))).bind fun v8=>
 if v8 then
 some false
 else
 d8 FU a2b (a0,0)
def a5f (r7:(Statute×Int) -> Option Bool) (v6:Statute×Int):Option Bool:=
 if (decide (v6.2<(v6.1.Versions.length:Int))) then
 (i7 v6.1.Versions v6.2).bind fun v8=>
 (a3l v8).bind fun v9=>
 if (!v9) then
 some false
 else
 r7 (v6.1,i64 (v6.2+1))
 else
 some true
def a4g (a0:Statute):Option Bool:=
 (w9 a0.Name).bind fun v1=>
 (if (!v1) then some true else some (decide (a0.Currency<1))).bind fun v2=>
 (if v2 then some true else some (decide (a0.Currency>999))).bind fun v3=>
 (if v3 then some true else some (decide ((a0.Versions.length:Int)<1))).bind fun v4=>
 (if v4 then some true else some (decide ((a0.Versions.length:Int)>6))).bind fun v5=>
 if v5 then
 some false
 else
 d8 FU a5f (a0,0)
def a5d (r9:((List Version)×Statute×pensionref5_reader×(List Version)×Statute×Bool) -> Option (Statute×Int×Int)) (v10:(List Version)×Statute×pensionref5_reader×(List Version)×Statute):Option (Statute×Int×Int):=
 (a2r v10.2.2.1).bind fun v11=>
 (a8q 144 v10.2.2.2.1 [v11.1]).bind fun v12=>
 r9 (v10.1,(⟨v10.2.1.Name,v10.2.1.Currency,[]⟩:Statute),v11.2,v12,(⟨v10.2.2.2.2.Name,v10.2.2.2.2.Currency,[]⟩:Statute),false)
def a86 (v14:(List Version)×Statute×pensionref5_reader×(List Version)×Statute):Option (Statute×Int×Int):=
 (if v14.2.2.1.bad then some true else some (decide (v14.2.2.1.at_<(v14.2.2.1.l.length:Int)))).bind fun v15=>
 if v15 then
 (a94 v14.2.2.1).bind fun v16=>
 some ((⟨a1v,0,[]⟩:Statute),v16,4)
 else
 (a4g (⟨v14.2.2.2.2.Name,v14.2.2.2.2.Currency,v14.2.2.2.1⟩:Statute)).bind fun v17=>
 if (!v17) then
 some ((⟨a1v,0,[]⟩:Statute),0,7)
 else
 some ((⟨v14.2.2.2.2.Name,v14.2.2.2.2.Currency,v14.2.2.2.1⟩:Statute),0,0)
def a3z (r9:((List Version)×Statute×pensionref5_reader×(List Version)×Statute×Bool) -> Option (Statute×Int×Int)) (v8:(List Version)×Statute×pensionref5_reader×(List Version)×Statute×Bool):Option (Statute×Int×Int):=
 if (!v8.2.2.1.bad) then
 if v8.2.2.2.2.2 then
 joinC (a5d r9) (v8.1,(⟨v8.2.1.Name,v8.2.1.Currency,[]⟩:Statute),v8.2.2.1,v8.2.2.2.1,(⟨v8.2.2.2.2.1.Name,v8.2.2.2.2.1.Currency,[]⟩:Statute))
 else
 (g7 v8.2.2.1 a34).bind fun v13=>
 if (!v13.1) then
 joinC (a5d r9) (v8.1,(⟨v8.2.1.Name,v8.2.1.Currency,[]⟩:Statute),v13.2,v8.2.2.2.1,(⟨v8.2.2.2.2.1.Name,v8.2.2.2.2.1.Currency,[]⟩:Statute))
 else
 joinC a86 (v8.1,(⟨v8.2.1.Name,v8.2.1.Currency,[]⟩:Statute),v13.2,v8.2.2.2.1,(⟨v8.2.2.2.2.1.Name,v8.2.2.2.2.1.Currency,[]⟩:Statute))
 else
 joinC a86 (v8.1,(⟨v8.2.1.Name,v8.2.1.Currency,[]⟩:Statute),v8.2.2.1,v8.2.2.2.1,(⟨v8.2.2.2.2.1.Name,v8.2.2.2.2.1.Currency,[]⟩:Statute))
def a2z (a0:ByteArray):Option (Statute×Int×Int):=
 (b0s a0).bind fun v1=>
 optC v1.1 (if (v1.2.2 != 0) then
 some ((⟨a1v,0,[]⟩:Statute),v1.2.1,v1.2.2)
 else
 none) fun v2=>
 if (v1.2.2 != 0) then
 some ((⟨a1v,0,[]⟩:Statute),v1.2.1,v1.2.2)
 else
 (c6 v2 a3v).bind fun v3=>
 (a1c v3).bind fun v4=>
 (c6 v4.2 a2m).bind fun v5=>
 (y4 v5 1 999).bind fun v6=>
 (c6 v6.2 b3b).bind fun v7=>
 d8 FU a3z ([],(⟨a1v,0,[]⟩:Statute),v7,[],(⟨v4.1,v6.1,[]⟩:Statute),true)
def a17 (a0:List Int) (r2:((List State)×(List Rules)×(List Rate)×Laws×(List State)×(List Rules)×Laws×Int) -> Option Laws) (v1:(List State)×(List Rules)×(List Rate)×Laws×(List State)×(List Rules)×Laws×Int):Option Laws:=
 if (decide (v1.2.2.2.2.2.2.2<3)) then
 (a18 v1.2.2.2.2.2.2.2 a0).bind fun v3=>
 (a2z v3).bind fun v4=>
 if (v4.2.2==0) then
 (a8q 56 v1.2.2.2.2.1 [(⟨v1.2.2.2.2.2.2.2,v4.1⟩:State)]).bind fun v5=>
 r2 (v1.1,v1.2.1,v1.2.2.1,(⟨[],[],[]⟩:Laws),v5,v1.2.2.2.2.2.1,(⟨[],[],v1.2.2.2.2.2.2.1.Rates⟩:Laws),i64 (v1.2.2.2.2.2.2.2+1))
 else
 r2 (v1.1,v1.2.1,v1.2.2.1,(⟨[],[],[]⟩:Laws),v1.2.2.2.2.1,v1.2.2.2.2.2.1,(⟨[],[],v1.2.2.2.2.2.2.1.Rates⟩:Laws),i64 (v1.2.2.2.2.2.2.2+1))
 else
 (c8 a0 2).bind fun v6=>
 (b6 v6 6).bind fun v7=>
 (c8 a0 5).bind fun v8=>
 (b6 v8 3).bind fun v9=>
 if (v9==0) then
 (i7 [(⟨0,i64 (90*v7),730,25,[0,1]⟩:Rules)] 0).bind fun v10=>
 (i7 [(⟨0,i64 (90*v7),730,25,[0,1]⟩:Rules)] 0).bind fun v11=>
 some (⟨v1.2.2.2.2.1,a8b [(⟨0,i64 (90*v7),730,25,[0,1]⟩:Rules)] 0 (⟨v11.From,v11.MinDays,v11.PostingLimit,v11.Substantial,[0,1,2]⟩:Rules),v1.2.2.2.2.2.2.1.Rates⟩:Laws)
 else
 if (v9==1) then
 (a8q 56 [(⟨0,i64 (90*v7),730,25,[0,1]⟩:Rules)] [(⟨35000,i64 (90*v7),365,30,[0,1,2]⟩:Rules)]).bind fun v12=>
 some (⟨v1.2.2.2.2.1,v12,v1.2.2.2.2.2.2.1.Rates⟩:Laws)
 else
 (i7 [(⟨0,i64 (90*v7),730,25,[0,1]⟩:Rules)] 0).bind fun v13=>
 (i7 [(⟨0,i64 (90*v7),730,25,[0,1]⟩:Rules)] 0).bind fun v14=>
 (a8q 56 (a8b [(⟨0,i64 (90*v7),730,25,[0,1]⟩:Rules)] 0 (⟨v14.From,v14.MinDays,v14.PostingLimit,v14.Substantial,[0,1,2]⟩:Rules)) [(⟨36000,i64 (90*v7),730,25,[0,1]⟩:Rules)]).bind fun v15=>
 some (⟨v1.2.2.2.2.1,v15,v1.2.2.2.2.2.2.1.Rates⟩:Laws)
def a8o (a0:List Int):Option Laws:=
 d8 FU (a17 a0) ([],[],[],(⟨[],[],[]⟩:Laws),[],[],(⟨[],[],[(⟨1,0,(⟨1,1⟩:Fraction)⟩:Rate),(⟨2,0,(⟨3,2⟩:Fraction)⟩:Rate),(⟨3,0,(⟨1,7⟩:Fraction)⟩:Rate),(⟨3,1150,(⟨1,9⟩:Fraction)⟩:Rate)]⟩:Laws),0)
def b1t (a0:List pensionhand_Claim) (r2:((List Claim)×Int) -> Option (List Claim)) (v1:(List Claim)×Int):Option (List Claim):=
 (if (decide (v1.2<(a0.length:Int))) then some (decide (v1.2<6)) else some false).bind fun v3=>
 if v3 then
 (i7 a0 v1.2).bind fun v4=>
 (b6 v4.Issuer 3).bind fun v5=>
 (i7 a0 v1.2).bind fun v6=>
 (b6 v6.Number 9).bind fun v7=>
 (i7 a0 v1.2).bind fun v8=>
 (b6 v8.Person 4).bind fun v9=>
 (i7 a0 v1.2).bind fun v10=>
 (b6 v10.Benefit 5).bind fun v11=>
 (i7 a0 v1.2).bind fun v12=>
 (b6 v12.Day 900).bind fun v13=>
 (if ((i64 (1+v11))==3) then some true else some ((i64 (1+v11))==4)).bind fun v14=>
 if v14 then
 (i7 a0 v1.2).bind fun v15=>
 (b6 v15.Ref 4).bind fun v16=>
 if ((i64 (1+v16))==(i64 (1+v9))) then
 (b6 (i64 (1+v9)) 4).bind fun v17=>
 (a8q 48 v1.1 [(⟨v5,i64 (1+v7),i64 (1+v9),i64 (1+v11),i64 (1+v17),i64 (35150+v13)⟩:Claim)]).bind fun v18=>
 r2 (v18,i64 (v1.2+1))
 else
 (a8q 48 v1.1 [(⟨v5,i64 (1+v7),i64 (1+v9),i64 (1+v11),i64 (1+v16),i64 (35150+v13)⟩:Claim)]).bind fun v19=>
 r2 (v19,i64 (v1.2+1))
 else
 (a8q 48 v1.1 [(⟨v5,i64 (1+v7),i64 (1+v9),i64 (1+v11),0,i64 (35150+v13)⟩:Claim)]).bind fun v20=>
 r2 (v20,i64 (v1.2+1))
 else
 some v1.1
def a6s (a0:List pensionhand_Claim):Option (List Claim):=
 d8 FU (b1t a0) ([],0)
def a5l (a0:Int):Option (List Claim):=
 (b6 a0 400).bind fun v1=>
 some [(⟨0,801,1,1,0,i64 (35150+v1)⟩:Claim),(⟨0,802,1,2,0,i64 (35150+v1)⟩:Claim),(⟨1,803,1,3,2,i64 (35150+v1)⟩:Claim),(⟨1,804,1,4,3,i64 (35150+v1)⟩:Claim),(⟨2,805,1,5,0,i64 (35150+v1)⟩:Claim),(⟨2,806,3,3,2,i64 (35150+v1)⟩:Claim)]
def a7q (a0:pensionlaw26_Seeds):Option (Laws×(List api_Fact)×(List Claim)):=
 (a7r a0.Lives).bind fun v1=>
 (a7s a0.Facts).bind fun v2=>
 (a8q 112 v1 v2).bind fun v3=>
 (a8o a0.Laws).bind fun v4=>
 (a6s a0.Claims).bind fun v5=>
 (a5l a0.Day).bind fun v6=>
 (a8q 48 v5 v6).bind fun v7=>
 some (v4,v3,v7)
def a63 (a0:Int):Option Int:=
 (b6 a0 4).bind fun v1=>
 some (i64 (1+v1))
def a6r (a0:Int):Option Int:=
 (b6 a0 40).bind fun v1=>
 some (i64 (1155+v1))
def b45 (v3:Int×Bool):Option ByteArray:=
 if v3.2 then
 some b74
 else
 if (v3.1==14) then
 some c3e
 else
 some a1v
def b1e (v2:Int×Bool):Option ByteArray:=
 if v2.2 then
 some a7a
 else
 if (v2.1==6) then
 some b4l
 else
 if (v2.1==10) then
 some b7z
 else
 if (v2.1==11) then
 joinC b45 (v2.1,v2.1==11)
 else
 if (v2.1==12) then
 joinC b45 (v2.1,v2.1==12)
 else
 joinC b45 (v2.1,v2.1==13)
def b7w (v1:Int×Bool):Option ByteArray:=
 if v1.2 then
 some a5j
 else
 if (v1.1==4) then
 some b89
 else
 if (v1.1==5) then
 joinC b1e (v1.1,v1.1==5)
 else
 if (v1.1==7) then
 joinC b1e (v1.1,v1.1==7)
 else
 if (v1.1==8) then
 joinC b1e (v1.1,v1.1==8)
 else
 joinC b1e (v1.1,v1.1==9)
def a9t (a0:Int):Option ByteArray:=
 if (a0==1) then
 some a91
 else
 if (a0==2) then
 joinC b7w (a0,a0==2)
 else
 joinC b7w (a0,a0==3)
def a74 (a0:ByteArray) (a1:Int):Option Int:=
 (a5y a0 a1).bind fun v1=>
 some v1
def a5i (a0:ByteArray) (a1:ByteArray):Option Int:=
 (if ((a1.size:Int)==0) then some true else some (a1.toList==a0.toList)).bind fun v1=>
 if v1 then
 some 0
 else
 if ((a1.size:Int)==1) then
 (b03 a1 0).bind fun v2=>
 (a74 a0 v2).bind fun v3=>
 some v3
 else
 if (decide ((a1.size:Int) >= (a0.size:Int))) then
 some (-1:Int)
 else
 none
def c0j (a0:ByteArray) (a1:ByteArray):Option Int:=
 (a5i a0 a1).bind fun v1=>
 some v1
def b6p (a0:ByteArray) (a1:ByteArray):Option Bool:=
 (c0j a0 a1).bind fun v1=>
 some (decide (v1 >= 0))
def a0x (a0:ByteArray) (a1:ByteArray):Option Bool:=
 (b6p a1 a0).bind fun v1=>
 some v1
def a79 (a0:Int) (a1:Int) (a2:Int):Option Bool:=
 (if (decide (a0 >= a1)) then some (decide (a0 <= a2)) else some false).bind fun v1=>
 some v1
def a7x (a0:Bool) (a1:Int) (a2:Int) (a3:Int):Option Bool:=
 (if a0 then (a79 a1 a2 a3).bind fun v1=>
 some v1 else some false).bind fun v2=>
 (if v2 then some true else (if (!a0) then some (a1==0) else some false).bind fun v3=>
 some v3).bind fun v4=>
 some v4
def b4u (a0:Span):Option Bool:=
 (if (decide (a0.From >= 0)) then some (decide (a0.From<a0.To)) else some false).bind fun v1=>
 (if v1 then some (decide (a0.To <= 73049)) else some false).bind fun v2=>
 some v2
def b6c (v29:api_Fact×Bool):Option Bool:=
 if v29.2 then
 some (v29.1.Ref != v29.1.Person)
 else
 some true
def b64 (v28:api_Fact×Int×Bool):Option Bool:=
 if v28.2.2 then
 some (v28.1.Span.To==(i64 (v28.1.Span.From+1)))
 else
 if (v28.2.1==10) then
 joinC b6c (v28.1,v28.2.1==10)
 else
 joinC b6c (v28.1,v28.2.1==14)
def a5o (a0:api_Fact):Option Bool:=
 (a9t a0.Kind).bind fun v1=>
 (if (v1.toList==a1v.toList) then some true else (a79 a0.Issuer 0 5).bind fun v2=>
 some (!v2)).bind fun v3=>
 (if v3 then some true else (a79 a0.Number 1 999).bind fun v4=>
 some (!v4)).bind fun v5=>
 (if v5 then some true else (a79 a0.Version 1 99).bind fun v6=>
 some (!v6)).bind fun v7=>
 (if v7 then some true else (a79 a0.Person 1 99).bind fun v8=>
 some (!v8)).bind fun v9=>
 if v9 then
 some false
 else
 (a0x f9b v1).bind fun v10=>
 (a7x v10 a0.State 0 5).bind fun v11=>
 (if (!v11) then some true else (a0x f7u v1).bind fun v12=>
 (a7x v12 a0.Seat 0 5).bind fun v13=>
 some (!v13)).bind fun v14=>
 (if v14 then some true else (b4u a0.Span).bind fun v15=>
 some (!v15)).bind fun v16=>
 if v16 then
 some false
 else
 (a0x f7s v1).bind fun v17=>
 (a7x v17 a0.Share 1 100).bind fun v18=>
 (if (!v18) then some true else (a0x g0n v1).bind fun v19=>
 (a7x v19 a0.Currency 1 999).bind fun v20=>
 some (!v20)).bind fun v21=>
 (if v21 then some true else (a0x g0d v1).bind fun v22=>
 (a7x v22 a0.Amount 0 1000000000).bind fun v23=>
 some (!v23)).bind fun v24=>
 (if v24 then some true else (a0x f8f v1).bind fun v25=>
 (a7x v25 a0.Ref 1 99).bind fun v26=>
 some (!v26)).bind fun v27=>
 if v27 then
 some false
 else
 if (a0.Kind==4) then
 some (a0.State != a0.Seat)
 else
 if (a0.Kind==11) then
 joinC b64 (a0,a0.Kind,a0.Kind==11)
 else
 joinC b64 (a0,a0.Kind,a0.Kind==12)
def a68 (a0:Int):Option Bool:=
 some (a0 != a0)
def m6 (a0:Int) (a1:Int):Option Int:=
 (a68 a0).bind fun v1=>
 (a68 a1).bind fun v2=>
 if v1 then
 if v2 then
 some 0
 else
 some (-1:Int)
 else
 if v2 then
 some 1
 else
 if (decide (a0<a1)) then
 some (-1:Int)
 else
 if (decide (a0>a1)) then
 some 1
 else
 some 0
def a4x (a0:List Int) (r2:Int -> Option Int) (v1:Int):Option Int:=
 if (decide (v1<(a0.length:Int))) then
 (i7 a0 v1).bind fun v3=>
 if (v3 != 0) then
 some v3
 else
 r2 (i64 (v1+1))
 else
 some 0
def a4a (a0:List Int):Option Int:=
 d8 FU (a4x a0) 0
def a7t (a0:api_Fact) (a1:api_Fact):Option Int:=
 (m6 a0.Issuer a1.Issuer).bind fun v1=>
 (m6 a0.Number a1.Number).bind fun v2=>
 (a4a [v1,v2]).bind fun v3=>
 some v3
def a7c (v3:Int) (r2:((List Int)×Int) -> Option (List Int)) (v1:(List Int)×Int) (r5:((List Int)×Int) -> Option (List Int)) (v4:(List Int)×Int):Option (List Int):=
 if (decide (v4.2 >= 0)) then
 (e09 .i64 v3 (i64 (8*v4.2))).bind fun v6=>
 (a8q 1 v4.1 [IntKind.u8.wrap (v6)]).bind fun v7=>
 r5 (v7,i64 (v4.2-1))
 else
 r2 (v4.1,i64 (v1.2+1))
def a59 (a2:List Int) (a1:Int) (r2:((List Int)×Int) -> Option (List Int)) (v1:(List Int)×Int):Option (List Int):=
 if (decide (v1.2<(a2.length:Int))) then
 (i7 a2 v1.2).bind fun v3=>
 d8 FU (a7c v3 r2 v1) (v1.1,i64 (a1-1))
 else
 some v1.1
def l9 (a0:List Int) (a1:Int) (a2:List Int):Option (List Int):=
 d8 FU (a59 a2 a1) (a0,0)
def b2u (r8:(api_Fact×(List Int)×(ByteArray×Int)) -> Option (List Int)) (v7:api_Fact×(List Int)×(ByteArray×Int)):Option (List Int):=
 optC (c5l v7.2.2.1 v7.2.2.2) (some v7.2.1) fun v9=>
 (v9).bind fun v10=>
 if (v10==83) then
 (l9 v7.2.1 1 [v7.1.State]).bind fun v11=>
 r8 (v7.1,v11,(v7.2.2.1,v7.2.2.2+1))
 else
 if (v10==80) then
 (l9 v7.2.1 3 [v7.1.Span.From,v7.1.Span.To]).bind fun v12=>
 r8 (v7.1,v12,(v7.2.2.1,v7.2.2.2+1))
 else
 if (v10==84) then
 (l9 v7.2.1 1 [v7.1.Seat]).bind fun v13=>
 r8 (v7.1,v13,(v7.2.2.1,v7.2.2.2+1))
 else
 if (v10==72) then
 (l9 v7.2.1 1 [v7.1.Share]).bind fun v14=>
 r8 (v7.1,v14,(v7.2.2.1,v7.2.2.2+1))
 else
 if (v10==67) then
 (l9 v7.2.1 2 [v7.1.Currency]).bind fun v15=>
 r8 (v7.1,v15,(v7.2.2.1,v7.2.2.2+1))
 else
 if (v10==65) then
 (l9 v7.2.1 4 [v7.1.Amount]).bind fun v16=>
 r8 (v7.1,v16,(v7.2.2.1,v7.2.2.2+1))
 else
 if (v10==82) then
 (l9 v7.2.1 1 [v7.1.Ref]).bind fun v17=>
 r8 (v7.1,v17,(v7.2.2.1,v7.2.2.2+1))
 else
 r8 (v7.1,v7.2.1,(v7.2.2.1,v7.2.2.2+1))
def b2q (v2:api_Fact×Int):Option (List Int):=
 (l9 [] 1 [v2.1.Issuer]).bind fun v3=>
 (l9 v3 2 [v2.1.Number]).bind fun v4=>
 (l9 v4 1 [v2.1.Version,v2.2,v2.1.Person,v2.1.Kind]).bind fun v5=>
 (a9t v2.1.Kind).bind fun v6=>
 d8 FU b2u (v2.1,v5,(v6,0))
def b5t (a0:api_Fact):Option (List Int):=
 (a5o a0).bind fun v1=>
 if (!v1) then
 some []
 else
 if a0.Withdrawn then
 joinC b2q (a0,1)
 else
 joinC b2q (a0,0)
def b6g (a0:List Int) (a1:List Int):Option Int:=
 (b3s a0 a1).bind fun v1=>
 some v1
def c10 (a0:api_Fact) (a1:api_Fact):Option Bool:=
 (a5o a0).bind fun v1=>
 (if (!v1) then some true else (a5o a1).bind fun v2=>
 some (!v2)).bind fun v3=>
 if v3 then
 some false
 else
 (b5t a0).bind fun v4=>
 (b5t a1).bind fun v5=>
 (b6g v4 v5).bind fun v6=>
 some (decide (v6<0))
def b1c (a0:api_Fact) (a1:api_Fact):Option api_Fact:=
 (c10 a0 a1).bind fun v1=>
 if v1 then
 some a1
 else
 some a0
def g8 (r2:((List api_Fact)×(List api_Fact)×(List api_Fact)) -> Option (List api_Fact)) (v1:(List api_Fact)×(List api_Fact)×(List api_Fact)):Option (List api_Fact):=
 (if (decide ((v1.1.length:Int)>0)) then some (decide ((v1.2.1.length:Int)>0)) else some false).bind fun v3=>
 if v3 then
 (i7 v1.1 0).bind fun v4=>
 (i7 v1.2.1 0).bind fun v5=>
 (a7t v4 v5).bind fun v6=>
 if (decide (v6<0)) then
 (i7 v1.1 0).bind fun v7=>
 (a8q 112 v1.2.2 [v7]).bind fun v8=>
 (a2t v1.1 1 (v1.1.length:Int)).bind fun v9=>
 r2 (v9,v1.2.1,v8)
 else
 if (decide (v6>0)) then
 (i7 v1.2.1 0).bind fun v10=>
 (a8q 112 v1.2.2 [v10]).bind fun v11=>
 (a2t v1.2.1 1 (v1.2.1.length:Int)).bind fun v12=>
 r2 (v1.1,v12,v11)
 else
 (i7 v1.1 0).bind fun v13=>
 (i7 v1.2.1 0).bind fun v14=>
 (b1c v13 v14).bind fun v15=>
 (a8q 112 v1.2.2 [v15]).bind fun v16=>
 (a2t v1.1 1 (v1.1.length:Int)).bind fun v17=>
 (a2t v1.2.1 1 (v1.2.1.length:Int)).bind fun v18=>
 r2 (v17,v18,v16)
 else
 (a8q 112 v1.2.2 v1.1).bind fun v19=>
 (a8q 112 v19 v1.2.1).bind fun v20=>
 some v20
def g9 (a0:List api_Fact) (a1:List api_Fact):Option (List api_Fact):=
 d8 FU g8 (a0,a1,[])
def a5x (a0:List api_Fact) (r2:((List api_Fact)×Int) -> Option (List api_Fact)) (v1:(List api_Fact)×Int):Option (List api_Fact):=
 if (decide (v1.2<(a0.length:Int))) then
 (i7 a0 v1.2).bind fun v3=>
 (a5o v3).bind fun v4=>
 if v4 then
 (g9 v1.1 [v3]).bind fun v5=>
 r2 (v5,i64 (v1.2+1))
 else
 r2 (v1.1,i64 (v1.2+1))
 else
 some v1.1
def a69 (a0:List api_Fact):Option (List api_Fact):=
 d8 FU (a5x a0) ([],0)
def a7h (a0:List api_Fact) (a1:List api_Fact):Option (List api_Fact):=
 (a69 a0).bind fun v1=>
 (a69 a1).bind fun v2=>
 (g9 v1 v2).bind fun v3=>
 some v3
def c03 (a0:api_Fact) (a1:Int):Option Bool:=
 some (a0.Person==a1)
def a3g (a0:List api_Fact) (a1_0:Int) (r2:((List api_Fact)×Int) -> Option (List api_Fact)) (v1:(List api_Fact)×Int):Option (List api_Fact):=
 if (decide (v1.2<(a0.length:Int))) then
 (i7 a0 v1.2).bind fun v3=>
 (c03 v3 a1_0).bind fun v4=>
 if v4 then
 (a8q 112 v1.1 [v3]).bind fun v5=>
 r2 (v5,i64 (v1.2+1))
 else
 r2 (v1.1,i64 (v1.2+1))
 else
 some v1.1
def a4q (a0:List api_Fact) (a1_0:Int):Option (List api_Fact):=
 d8 FU (a3g a0 a1_0) ([],0)
def b1u (a0:List api_Fact) (a1:Int):Option (List api_Fact):=
 (a4q a0 a1).bind fun v1=>
 some v1
def a8c (a0:api_Fact):Option Bool:=
 (a5o a0).bind fun v1=>
 (if v1 then some (!a0.Withdrawn) else some false).bind fun v2=>
 some v2
def a9p (a0:List api_Fact) (a1:Int) (r2:(Int×Bool×Int) -> Option (Int×Bool)) (v1:Int×Bool×Int):Option (Int×Bool):=
 if (decide (v1.2.2<(a0.length:Int))) then
 (i7 a0 v1.2.2).bind fun v3=>
 (a8c v3).bind fun v4=>
 (if v4 then some (v3.Kind==a1) else some false).bind fun v5=>
 (if v5 then (if (!v1.2.1) then some true else some (decide (v3.Span.From<v1.1))).bind fun v6=>
 some v6 else some false).bind fun v7=>
 if v7 then
 r2 (v3.Span.From,true,i64 (v1.2.2+1))
 else
 r2 (v1.1,v1.2.1,i64 (v1.2.2+1))
 else
 some (v1.1,v1.2.1)
def b3y (a0:List api_Fact) (a1:Int):Option (Int×Bool):=
 d8 FU (a9p a0 a1) (0,false,0)
def a8x (a0:List api_Fact):Option (Int×Bool):=
 (b3y a0 12).bind fun v1=>
 some (v1.1,v1.2)
def a4o (a0:Int):Option Bool:=
 (if (decide (a0 >= 0)) then some (decide (a0 <= 2399)) else some false).bind fun v1=>
 some v1
def b2t (a0:Int):Option Bool:=
 (b46 a0 4).bind fun v1=>
 (if (v1==0) then (b46 a0 100).bind fun v2=>
 some (v2 != 0) else some false).bind fun v3=>
 (if v3 then some true else (b46 a0 400).bind fun v4=>
 some (v4==0)).bind fun v5=>
 some v5
def a0b (a0:Int) (a1:Int):Option Int:=
 (if (a1==2) then (b2t a0).bind fun v1=>
 some v1 else some false).bind fun v2=>
 if v2 then
 some 29
 else
 (i7 (⟨[31,28,31,30,31,30,31,31,30,31,30,31],rfl⟩:Ar 12 Int).l (i64 (a1-1))).bind fun v3=>
 (i7 (⟨[31,28,31,30,31,30,31,31,30,31,30,31],rfl⟩:Ar 12 Int).l (i64 (a1-1))).bind fun v4=>
 some v4
def a29 (a0:Int):Option Int:=
 if (decide ((i64 (a0-1900))>0)) then
 (b7a (i64 ((i64 (a0-1900))-1)) 4).bind fun v1=>
 some (i64 ((i64 (365*(i64 (a0-1900))))+v1))
 else
 some (i64 (365*(i64 (a0-1900))))
def b3o (a1:Int) (a0:Int) (r9:(Int×Int) -> Option (Int×Bool)) (v8:Int×Int):Option (Int×Bool):=
 if (decide (v8.2<a1)) then
 (a0b a0 v8.2).bind fun v10=>
 r9 (i64 (v8.1+v10),i64 (v8.2+1))
 else
 some (v8.1,true)
def a7d (a0:Int) (a1:Int) (a2:Int):Option (Int×Bool):=
 (if (decide (a0<1900)) then some true else some (decide (a0>2099))).bind fun v1=>
 (if v1 then some true else some (decide (a1<1))).bind fun v2=>
 (if v2 then some true else some (decide (a1>12))).bind fun v3=>
 (if v3 then some true else some (decide (a2<1))).bind fun v4=>
 (if v4 then some true else (a0b a0 a1).bind fun v5=>
 some (decide (a2>v5))).bind fun v6=>
 if v6 then
 some (0,false)
 else
 (a29 a0).bind fun v7=>
 d8 FU (b3o a1 a0) (i64 ((i64 (v7+a2))-1),1)
def a1p (a0:Int):Option (Int×Bool):=
 (a4o a0).bind fun v1=>
 if (!v1) then
 some (0,false)
 else
 (b7a a0 12).bind fun v2=>
 (b46 a0 12).bind fun v3=>
 (a7d (i64 (1900+v2)) (i64 (v3+1)) 1).bind fun v4=>
 some (v4.1,v4.2)
def a4f (a0:Int):Option Bool:=
 (if (decide (a0 >= 0)) then some (decide (a0 <= 73048)) else some false).bind fun v1=>
 some v1
def a4r (a0:Int):Option Int:=
 (b2t a0).bind fun v1=>
 if v1 then
 some 366
 else
 some 365
def b25 (v3:Int) (r9:(Int×Int) -> Option (Int×Int×Int×Bool)) (v8:Int×Int):Option (Int×Int×Int×Bool):=
 (a0b v3 v8.1).bind fun v10=>
 if (decide (v8.2 >= v10)) then
 (a0b v3 v8.1).bind fun v11=>
 r9 (i64 (v8.1+1),i64 (v8.2-v11))
 else
 some (v3,v8.1,i64 (v8.2+1),true)
def b27 (a0:Int) (r4:Int -> Option (Int×Int×Int×Bool)) (v3:Int):Option (Int×Int×Int×Bool):=
 (a29 v3).bind fun v5=>
 (a4r v3).bind fun v6=>
 if (decide ((i64 (v5+v6)) <= a0)) then
 r4 (i64 (v3+1))
 else
 (a29 v3).bind fun v7=>
 d8 FU (b25 v3) (1,i64 (a0-v7))
def a9h (a0:Int):Option (Int×Int×Int×Bool):=
 (a4f a0).bind fun v1=>
 if (!v1) then
 some (0,0,0,false)
 else
 (b7a a0 366).bind fun v2=>
 d8 FU (b27 a0) (i64 (1900+v2))
def a6e (a0:Int):Option Int:=
 (a9h a0).bind fun v1=>
 if (!v1.2.2.2) then
 some (-1:Int)
 else
 some (i64 ((i64 ((i64 (12*(i64 (v1.1-1900))))+v1.2.1))-1))
def b0u (v3:Int):Option (Int×Bool):=
 if (decide (v3>2399)) then
 some (0,false)
 else
 some (v3,true)
def a1z (a0:Claim):Option (Int×Bool):=
 (a6e a0.Day).bind fun v1=>
 if (decide (v1<0)) then
 some (0,false)
 else
 (a1p v1).bind fun v2=>
 if (decide (v2.1<a0.Day)) then
 joinC b0u (i64 (v1+1))
 else
 joinC b0u v1
def b0x (v9:Claim):Option Bool:=
 (a1z v9).bind fun v10=>
 some v10.2
def a7p (v11:Claim×Bool):Option Bool:=
 if v11.2 then
 if (v11.1.Ref != 0) then
 some false
 else
 joinC b0x v11.1
 else
 some false
def b0t (v6:Claim×Int×Bool):Option Bool:=
 if v6.2.2 then
 (if (decide (v6.1.Ref<1)) then some true else some (decide (v6.1.Ref>99))).bind fun v7=>
 (if v7 then some true else some (v6.1.Ref==v6.1.Person)).bind fun v8=>
 if v8 then
 some false
 else
 joinC b0x v6.1
 else
 if (v6.2.1==1) then
 joinC a7p (v6.1,v6.2.1==1)
 else
 if (v6.2.1==2) then
 joinC a7p (v6.1,v6.2.1==2)
 else
 joinC a7p (v6.1,v6.2.1==5)
def a4d (a0:Claim):Option Bool:=
 (if (decide (a0.Issuer<0)) then some true else some (decide (a0.Issuer >= 6))).bind fun v1=>
 (if v1 then some true else some (decide (a0.Number<1))).bind fun v2=>
 (if v2 then some true else some (decide (a0.Number>999))).bind fun v3=>
 (if v3 then some true else some (decide (a0.Person<1))).bind fun v4=>
 (if v4 then some true else some (decide (a0.Person>99))).bind fun v5=>
 if v5 then
 some false
 else
 if (a0.Benefit==3) then
 joinC b0t (a0,a0.Benefit,a0.Benefit==3)
 else
 joinC b0t (a0,a0.Benefit,a0.Benefit==4)
def c46 (a0:Int):Option Int:=
 (c2b a0).bind fun v1=>
 some v1
def a3t (a0:Claim) (a1:Claim):Option Int:=
 (m6 a0.Issuer a1.Issuer).bind fun v1=>
 (m6 a0.Number a1.Number).bind fun v2=>
 (m6 a0.Day a1.Day).bind fun v3=>
 (m6 a0.Person a1.Person).bind fun v4=>
 (m6 a0.Benefit a1.Benefit).bind fun v5=>
 (m6 a0.Ref a1.Ref).bind fun v6=>
 (a4a [v1,v2,v3,v4,v5,v6]).bind fun v7=>
 some v7
def a0g (r9:((List Claim)×Int×Int×(Int×Nat)) -> Option (List Claim)) (v8:(List Claim)×Int×Int×(Int×Nat)):Option (List Claim):=
 if (decide (v8.2.2.1<(v8.2.2.2.2:Int))) then
 (c3m v8.1 v8.2.2.2.1 v8.2.2.1).bind fun v10=>
 (i7 v8.1 (v8.2.2.2.1+v8.2.2.1)).bind fun v11=>
 (c3m v8.1 v8.2.2.2.1 (i64 (v8.2.2.1-1))).bind fun v12=>
 (i7 v8.1 (v8.2.2.2.1+(i64 (v8.2.2.1-1)))).bind fun v13=>
 if (!((v11.Issuer==v13.Issuer)&&((v11.Number==v13.Number)&&((v11.Person==v13.Person)&&((v11.Benefit==v13.Benefit)&&((v11.Ref==v13.Ref)&&((v11.Day==v13.Day)&&(true)))))))) then
 (c3m v8.1 v8.2.2.2.1 v8.2.2.1).bind fun v14=>
 (i7 v8.1 (v8.2.2.2.1+v8.2.2.1)).bind fun v15=>
 (i7 v8.1 v8.2.1).bind fun v16=>
 (i7 v8.1 v8.2.1).bind fun v17=>
 r9 (a8b v8.1 v8.2.1 v15,i64 (v8.2.1+1),i64 (v8.2.2.1+1),(v8.2.2.2.1,v8.2.2.2.2))
 else
 r9 (v8.1,v8.2.1,i64 (v8.2.2.1+1),(v8.2.2.2.1,v8.2.2.2.2))
 else
 (a2t v8.1 v8.2.1 (v8.1.length:Int)).bind fun v18=>
 (f6i (⟨0,0,0,0,0,0⟩:Claim) v8.1 v8.2.1 v18.length).bind fun v19=>
 (a2t v19 0 v8.2.1).bind fun v20=>
 some v20
def y3 (r2:((List Claim)×Int) -> Option (List Claim)) (v1:(List Claim)×Int):Option (List Claim):=
 if (decide (v1.2<(v1.1.length:Int))) then
 (i7 v1.1 v1.2).bind fun v3=>
 (i7 v1.1 v1.2).bind fun v4=>
 (i7 v1.1 (i64 (v1.2-1))).bind fun v5=>
 (i7 v1.1 (i64 (v1.2-1))).bind fun v6=>
 if ((v4.Issuer==v6.Issuer)&&((v4.Number==v6.Number)&&((v4.Person==v6.Person)&&((v4.Benefit==v6.Benefit)&&((v4.Ref==v6.Ref)&&((v4.Day==v6.Day)&&(true))))))) then
 (a2t v1.1 v1.2 (v1.1.length:Int)).bind fun v7=>
 d8 FU a0g (v1.1,v1.2,1,(v1.2,v7.length))
 else
 r2 (v1.1,i64 (v1.2+1))
 else
 some v1.1
def a2a (a0:List Claim):Option (List Claim):=
 if (decide ((a0.length:Int)<2)) then
 some a0
 else
 d8 FU y3 (a0,1)
def a2k (a1:Int) (r2:((List Claim)×Int) -> Option (List Claim)) (v1:(List Claim)×Int) (r4:((List Claim)×Int) -> Option (List Claim)) (v3:(List Claim)×Int):Option (List Claim):=
 (if (decide (v3.2>a1)) then (i7 v3.1 v3.2).bind fun v5=>
 (i7 v3.1 v3.2).bind fun v6=>
 (i7 v3.1 (i64 (v3.2-1))).bind fun v7=>
 (i7 v3.1 (i64 (v3.2-1))).bind fun v8=>
 (a3t v6 v8).bind fun v9=>
 some (decide (v9<0)) else some false).bind fun v10=>
 if v10 then
 (i7 v3.1 (i64 (v3.2-1))).bind fun v11=>
 (i7 v3.1 (i64 (v3.2-1))).bind fun v12=>
 (i7 v3.1 v3.2).bind fun v13=>
 (i7 v3.1 v3.2).bind fun v14=>
 (i7 v3.1 v3.2).bind fun v15=>
 (i7 v3.1 v3.2).bind fun v16=>
 (i7 (a8b v3.1 v3.2 v12) (i64 (v3.2-1))).bind fun v17=>
 (i7 (a8b v3.1 v3.2 v12) (i64 (v3.2-1))).bind fun v18=>
 r4 (a8b (a8b v3.1 v3.2 v12) (i64 (v3.2-1)) v14,i64 (v3.2-1))
 else
 r2 (v3.1,i64 (v1.2+1))
def a2j (a2:Int) (a1:Int) (r2:((List Claim)×Int) -> Option (List Claim)) (v1:(List Claim)×Int):Option (List Claim):=
 if (decide (v1.2<a2)) then
 d8 FU (a2k a1 r2 v1) (v1.1,v1.2)
 else
 some v1.1
def s5 (a0:List Claim) (a1:Int) (a2:Int):Option (List Claim):=
 d8 FU (a2j a2 a1) (a0,i64 (a1+1))
structure Ring_slices_pdqsortCmpFunc_of_api_Claim_c_decision_compare where
 f_slices_pdqsortCmpFunc_of_api_Claim:(List Claim) -> Int -> Int -> Int -> Option (List Claim)
def a3k (R:Ring_slices_pdqsortCmpFunc_of_api_Claim_c_decision_compare) (v4:(List Claim)×Int×Int×Int×Unit×Bool×Bool×Int):Option (List Claim):=
 none
def n6 (R:Ring_slices_pdqsortCmpFunc_of_api_Claim_c_decision_compare) (r2:((List Claim)×Int×Int×Int×Bool×Bool) -> Option (List Claim)) (v1:(List Claim)×Int×Int×Int×Bool×Bool):Option (List Claim):=
 if (decide ((i64 (v1.2.2.1-v1.2.1)) <= 12)) then
 (s5 v1.1 v1.2.1 v1.2.2.1).bind fun v3=>
 some v3
 else
 if (v1.2.2.2.1==0) then
 none
 else
 if (!v1.2.2.2.2.1) then
 none
 else
 joinC (a3k R) (v1.1,v1.2.1,v1.2.2.1,v1.2.2.2.1,(),v1.2.2.2.2.1,v1.2.2.2.2.2,i64 (v1.2.2.1-v1.2.1))
def n9 (R:Ring_slices_pdqsortCmpFunc_of_api_Claim_c_decision_compare) (a0:List Claim) (a1:Int) (a2:Int) (a3:Int):Option (List Claim):=
 d8 FU (n6 R) (a0,a1,a2,a3,true,true)
def c7:Nat -> Ring_slices_pdqsortCmpFunc_of_api_Claim_c_decision_compare
 | 0=>⟨fun _ _ _ _=>none⟩
 | n+1=>⟨n9 (c7 n)⟩
def a0t (a0:List Claim) (a1:Int) (a2:Int) (a3:Int):Option (List Claim):=(c7 FU).f_slices_pdqsortCmpFunc_of_api_Claim a0 a1 a2 a3
def n8 (a0:List Claim):Option (List Claim):=
 (c46 (u64 ((a0.length:Int)))).bind fun v1=>
 (a0t a0 0 (a0.length:Int) v1).bind fun v2=>
 some v2
def a6t (a0:List Claim) (r2:((List Claim)×Int) -> Option (List Claim)) (v1:(List Claim)×Int):Option (List Claim):=
 if (decide (v1.2<(a0.length:Int))) then
 (i7 a0 v1.2).bind fun v3=>
 (a4d v3).bind fun v4=>
 if v4 then
 (a8q 48 v1.1 [v3]).bind fun v5=>
 r2 (v5,i64 (v1.2+1))
 else
 r2 (v1.1,i64 (v1.2+1))
 else
 (n8 v1.1).bind fun v6=>
 (a2a v6).bind fun v7=>
 some v7
def a7b (a0:List Claim):Option (List Claim):=
 d8 FU (a6t a0) ([],0)
def a66 (a0:Claim) (a1:Int):Option Bool:=
 (a1z a0).bind fun v1=>
 some (decide (v1.1 <= a1))
def a2g (a0:Claim) (a1:Claim):Option Int:=
 (m6 a0.Benefit a1.Benefit).bind fun v1=>
 (m6 a0.Ref a1.Ref).bind fun v2=>
 (a4a [v1,v2]).bind fun v3=>
 some v3
def a1s (a1:Int) (r2:((List Claim)×Int) -> Option (List Claim)) (v1:(List Claim)×Int) (r4:((List Claim)×Int) -> Option (List Claim)) (v3:(List Claim)×Int):Option (List Claim):=
 (if (decide (v3.2>a1)) then (i7 v3.1 v3.2).bind fun v5=>
 (i7 v3.1 v3.2).bind fun v6=>
 (i7 v3.1 (i64 (v3.2-1))).bind fun v7=>
 (i7 v3.1 (i64 (v3.2-1))).bind fun v8=>
 (a2g v6 v8).bind fun v9=>
 some (decide (v9<0)) else some false).bind fun v10=>
 if v10 then
 (i7 v3.1 (i64 (v3.2-1))).bind fun v11=>
 (i7 v3.1 (i64 (v3.2-1))).bind fun v12=>
 (i7 v3.1 v3.2).bind fun v13=>
 (i7 v3.1 v3.2).bind fun v14=>
 (i7 v3.1 v3.2).bind fun v15=>
 (i7 v3.1 v3.2).bind fun v16=>
 (i7 (a8b v3.1 v3.2 v12) (i64 (v3.2-1))).bind fun v17=>
 (i7 (a8b v3.1 v3.2 v12) (i64 (v3.2-1))).bind fun v18=>
 r4 (a8b (a8b v3.1 v3.2 v12) (i64 (v3.2-1)) v14,i64 (v3.2-1))
 else
 r2 (v3.1,i64 (v1.2+1))
def a1q (a2:Int) (a1:Int) (r2:((List Claim)×Int) -> Option (List Claim)) (v1:(List Claim)×Int):Option (List Claim):=
 if (decide (v1.2<a2)) then
 d8 FU (a1s a1 r2 v1) (v1.1,v1.2)
 else
 some v1.1
def k8 (a0:List Claim) (a1:Int) (a2:Int):Option (List Claim):=
 d8 FU (a1q a2 a1) (a0,i64 (a1+1))
def a2y (a1:Int) (v5:(List Claim)×Int) (r6:((List Claim)×Int) -> Option (List Claim)) (r8:((List Claim)×Int×Int) -> Option (List Claim)) (v7:(List Claim)×Int×Int):Option (List Claim):=
 if (decide (v7.2.2 <= a1)) then
 none
 else
 if (decide ((i64 (v7.2.1+v5.2))<a1)) then
 none
 else
 r6 (v7.1,i64 (v5.2*2))
def m5 (a1:Int) (r6:((List Claim)×Int) -> Option (List Claim)) (v5:(List Claim)×Int):Option (List Claim):=
 if (decide (v5.2<a1)) then
 d8 FU (a2y a1 v5 r6) (v5.1,0,i64 (2*v5.2))
 else
 some v5.1
def m4 (a1:Int) (r2:((List Claim)×Int×Int) -> Option (List Claim)) (v1:(List Claim)×Int×Int):Option (List Claim):=
 if (decide (v1.2.2 <= a1)) then
 (k8 v1.1 v1.2.1 v1.2.2).bind fun v3=>
 r2 (v3,v1.2.2,i64 (v1.2.2+20))
 else
 (k8 v1.1 v1.2.1 a1).bind fun v4=>
 d8 FU (m5 a1) (v4,20)
def u5 (a0:List Claim) (a1:Int):Option (List Claim):=
 d8 FU (m4 a1) (a0,0,20)
def m7 (a0:List Claim):Option (List Claim):=
 (u5 a0 (a0.length:Int)).bind fun v1=>
 some v1
def b1p (a0:List Claim) (a2:Int) (a1:Int) (r2:((List Claim)×(Ar 6 Bool)×(Ar 100 Bool)×Int) -> Option (List Claim)) (v1:(List Claim)×(Ar 6 Bool)×(Ar 100 Bool)×Int):Option (List Claim):=
 if (decide (v1.2.2.2<(a0.length:Int))) then
 (i7 a0 v1.2.2.2).bind fun v3=>
 if (v3.Benefit==4) then
 (a66 v3 a2).bind fun v4=>
 (if v4 then (i7 v1.2.2.1.l v3.Ref).bind fun v5=>
 (i7 v1.2.2.1.l v3.Ref).bind fun v6=>
 some (!v6) else some false).bind fun v7=>
 if v7 then
 (i7 v1.2.2.1.l v3.Ref).bind fun v8=>
 (i7 v1.2.2.1.l v3.Ref).bind fun v9=>
 if (v3.Person==a1) then
 (a8q 48 v1.1 [v3]).bind fun v10=>
 r2 (v10,v1.2.1,Ar.set v1.2.2.1 v3.Ref true,i64 (v1.2.2.2+1))
 else
 r2 (v1.1,v1.2.1,Ar.set v1.2.2.1 v3.Ref true,i64 (v1.2.2.2+1))
 else
 r2 (v1.1,v1.2.1,v1.2.2.1,i64 (v1.2.2.2+1))
 else
 (if (v3.Person==a1) then (i7 v1.2.1.l v3.Benefit).bind fun v11=>
 (i7 v1.2.1.l v3.Benefit).bind fun v12=>
 some (!v12) else some false).bind fun v13=>
 if v13 then
 (i7 v1.2.1.l v3.Benefit).bind fun v14=>
 (i7 v1.2.1.l v3.Benefit).bind fun v15=>
 (a66 v3 a2).bind fun v16=>
 if v16 then
 (a8q 48 v1.1 [v3]).bind fun v17=>
 r2 (v17,Ar.set v1.2.1 v3.Benefit true,v1.2.2.1,i64 (v1.2.2.2+1))
 else
 r2 (v1.1,Ar.set v1.2.1 v3.Benefit true,v1.2.2.1,i64 (v1.2.2.2+1))
 else
 r2 (v1.1,v1.2.1,v1.2.2.1,i64 (v1.2.2.2+1))
 else
 (m7 v1.1).bind fun v18=>
 some v18
def a0d (a0:List Claim) (a1:Int) (a2:Int):Option (List Claim):=
 d8 FU (b1p a0 a2 a1) ([],(arZ 6 false:Ar 6 Bool),(arZ 100 false:Ar 100 Bool),0)
def b7l (a0:List Claim) (a1:Int) (a2:Int):Option (List Claim):=
 (if (decide (a2<0)) then some true else some (decide (a2>2399))).bind fun v1=>
 if v1 then
 some []
 else
 (a7b a0).bind fun v2=>
 (a0d v2 a1 a2).bind fun v3=>
 some v3
def a9u (a0:Laws) (a1:List api_Fact) (a2:List Claim) (a3:Int):Option (Option decision_file):=
 (a7h a1 []).bind fun v1=>
 (b1u v1 a3).bind fun v2=>
 (a7b a2).bind fun v3=>
 some (some (⟨a0,v1,v2,v3,a3⟩:decision_file))
def a36 (v1:List Claim) (a1:Int) (r3:((List Claim)×(List Claim)×Int) -> Option (List Claim)) (v2:(List Claim)×(List Claim)×Int):Option (List Claim):=
 if (decide (v2.2.2<(v1.length:Int))) then
 (i7 v2.2.1 v2.2.2).bind fun v4=>
 (i7 v2.2.1 v2.2.2).bind fun v5=>
 if (v5.Benefit==a1) then
 (a8q 48 v2.1 [v5]).bind fun v6=>
 r3 (v6,v2.2.1,i64 (v2.2.2+1))
 else
 r3 (v2.1,v2.2.1,i64 (v2.2.2+1))
 else
 some v2.1
def a1f (a0:decision_file) (a1:Int) (a2:Int):Option (List Claim):=
 (a0d a0.claims a0.person a2).bind fun v1=>
 d8 FU (a36 v1 a1) ([],v1,0)
def a0w (a0:decision_file) (a1:Int):Option Bool:=
 (a8x a0.own).bind fun v1=>
 (if (!v1.2) then some true else some (decide (v1.1 >= a1))).bind fun v2=>
 some v2
def a28 (a0:List api_Fact) (r2:((List api_Fact)×Int) -> Option (List api_Fact)) (v1:(List api_Fact)×Int):Option (List api_Fact):=
 if (decide (v1.2<(a0.length:Int))) then
 (i7 a0 v1.2).bind fun v3=>
 (a8c v3).bind fun v4=>
 if v4 then
 (a8q 112 v1.1 [v3]).bind fun v5=>
 r2 (v5,i64 (v1.2+1))
 else
 r2 (v1.1,i64 (v1.2+1))
 else
 some v1.1
def a3f (a0:List api_Fact):Option (List api_Fact):=
 d8 FU (a28 a0) ([],0)
def b1b (a0:List api_Fact):Option (List api_Fact):=
 (a3f a0).bind fun v1=>
 some v1
def b4k (a0:List api_Fact):Option (List api_Fact):=
 (a7h a0 []).bind fun v1=>
 (b1b v1).bind fun v2=>
 some v2
def a8z (a0:List api_Fact) (a1:Int) (a2:Int):Option Bool:=
 (b1u a0 a1).bind fun v1=>
 (a8x v1).bind fun v2=>
 (if (!v2.2) then some true else some (decide (v2.1 >= a2))).bind fun v3=>
 some v3
def b3l (a0:api_Fact) (a1:Int) (a2:Int):Option Bool:=
 (if (a0.Kind==10) then some (a0.Ref==a1) else some false).bind fun v1=>
 (if v1 then some (decide (a0.Span.From <= a2)) else some false).bind fun v2=>
 (if v2 then some (decide (a2<a0.Span.To)) else some false).bind fun v3=>
 some v3
def q8 (a0:List api_Fact) (a1_0:Int) (a1_1:Int) (r2:Int -> Option Int) (v1:Int):Option Int:=
 if (decide (v1<(a0.length:Int))) then
 (i7 a0 v1).bind fun v3=>
 (b3l v3 a1_0 a1_1).bind fun v4=>
 if v4 then
 some v1
 else
 r2 (i64 (v1+1))
 else
 some (-1:Int)
def a07 (a0:List api_Fact) (a1_0:Int) (a1_1:Int):Option Int:=
 d8 FU (q8 a0 a1_0 a1_1) 0
def y6 (a0:List api_Fact) (a1_0:Int) (a1_1:Int):Option Bool:=
 (a07 a0 a1_0 a1_1).bind fun v1=>
 some (decide (v1 >= 0))
def b2w (a0:List api_Fact) (a1:Int) (a2:Int):Option Bool:=
 (y6 a0 a1 a2).bind fun v1=>
 some v1
def b0l (a1:Int) (a0:List api_Fact) (a2:Int) (r7:((List Int)×Int) -> Option (List Int)) (v6:(List Int)×Int):Option (List Int):=
 if (decide (v6.2 <= 99)) then
 if (v6.2 != a1) then
 (b1u a0 v6.2).bind fun v8=>
 (b2w v8 a1 a2).bind fun v9=>
 (if v9 then (a8z a0 v6.2 a2).bind fun v10=>
 some v10 else some false).bind fun v11=>
 if v11 then
 (a8q 8 v6.1 [v6.2]).bind fun v12=>
 r7 (v12,i64 (v6.2+1))
 else
 r7 (v6.1,i64 (v6.2+1))
 else
 (if false then (a8z a0 v6.2 a2).bind fun v13=>
 some v13 else some false).bind fun v14=>
 if v14 then
 (a8q 8 v6.1 [v6.2]).bind fun v15=>
 r7 (v15,i64 (v6.2+1))
 else
 r7 (v6.1,i64 (v6.2+1))
 else
 some v6.1
def b52 (a0:List api_Fact) (a1:Int) (a2:Int):Option (List Int):=
 (if (decide (a1<1)) then some true else some (decide (a1>99))).bind fun v1=>
 (if v1 then some true else some (decide (a2<0))).bind fun v2=>
 (if v2 then some true else some (decide (a2>73048))).bind fun v3=>
 (if v3 then some true else (a8z a0 a1 a2).bind fun v4=>
 some (!v4)).bind fun v5=>
 if v5 then
 some []
 else
 d8 FU (b0l a1 a0 a2) ([],1)
def b12 (a0:List api_Fact) (a1:Int) (a2:Int):Option (List Int):=
 (b4k a0).bind fun v1=>
 (b52 v1 a1 a2).bind fun v2=>
 some v2
def a4u (a0:List Int) (a1:Int) (r2:Int -> Option Int) (v1:Int):Option Int:=
 if (decide (v1<(a0.length:Int))) then
 (i7 a0 v1).bind fun v3=>
 if (a1==v3) then
 some v1
 else
 r2 (i64 (v1+1))
 else
 some (-1:Int)
def a8t (a0:List Int) (a1:Int):Option Int:=
 d8 FU (a4u a0 a1) 0
def a4s (a0:List Int) (a1:Int):Option Bool:=
 (a8t a0 a1).bind fun v1=>
 some (decide (v1 >= 0))
def a0r (a0:decision_file) (a1:Int) (a2:Int):Option Bool:=
 (b12 a0.facts a1 a2).bind fun v1=>
 (a4s v1 a0.person).bind fun v2=>
 some v2
def a8y (a0:Claim) (a1:decision_file) (a2:Int):Option Bool:=
 (a0r a1 a0.Ref a2).bind fun v1=>
 some v1
def a30 (a0:List Claim) (a1_0:decision_file) (a1_1:Int) (r2:Int -> Option Int) (v1:Int):Option Int:=
 if (decide (v1<(a0.length:Int))) then
 (i7 a0 v1).bind fun v3=>
 (a8y v3 a1_0 a1_1).bind fun v4=>
 if v4 then
 some v1
 else
 r2 (i64 (v1+1))
 else
 some (-1:Int)
def a0i (a0:List Claim) (a1_0:decision_file) (a1_1:Int):Option Int:=
 d8 FU (a30 a0 a1_0 a1_1) 0
def a0c (a0:List Claim) (a1_0:decision_file) (a1_1:Int):Option Bool:=
 (a0i a0 a1_0 a1_1).bind fun v1=>
 some (decide (v1 >= 0))
def s4 (a0:decision_file) (a1:Int) (a2:Int) (a3:Int):Option Bool:=
 (a1f a0 a1 a2).bind fun v1=>
 (if ((v1.length:Int)==0) then some true else (a0w a0 a3).bind fun v2=>
 some (!v2)).bind fun v3=>
 if v3 then
 some false
 else
 if (a1==2) then
 none
 else
 if (a1==3) then
 (i7 v1 0).bind fun v4=>
 (i7 v1 0).bind fun v5=>
 none
 else
 if (a1==4) then
 (a0c v1 a0 a3).bind fun v6=>
 some v6
 else
 some true
def b0k (a0:List api_Fact) (a1:List Claim) (a2:Int) (a3:Int) (a4:Int):Option Bool:=
 (a1p a4).bind fun v1=>
 if v1.2 then
 (a9u (⟨[],[],[]⟩:Laws) a0 a1 a2).bind fun v2=>
 optC v2 (none) fun v3=>
 (s4 v3 a3 a4 v1.1).bind fun v4=>
 some v4
 else
 some false
def b00:Option Bool:=
 (a7d 2000 3 15).bind fun v1=>
 (a1z (⟨1,5,2,1,0,v1.1⟩:Claim)).bind fun v2=>
 (b7l [(⟨1,5,2,1,0,v1.1⟩:Claim)] 2 1203).bind fun v3=>
 (if v2.2 then some (v2.1==1203) else some false).bind fun v4=>
 (if v4 then (a4d (⟨1,5,2,1,0,v1.1⟩:Claim)).bind fun v5=>
 some v5 else some false).bind fun v6=>
 (if v6 then some ((v3.length:Int)==1) else some false).bind fun v7=>
 (if v7 then (i7 v3 0).bind fun v8=>
 (i7 v3 0).bind fun v9=>
 some ((v9.Issuer==1)&&((v9.Number==5)&&((v9.Person==2)&&((v9.Benefit==1)&&((v9.Ref==0)&&((v9.Day==v1.1)&&(true))))))) else some false).bind fun v10=>
 if v10 then
 (b0k [] [(⟨1,5,2,1,0,v1.1⟩:Claim)] 2 1 1203).bind fun v11=>
 if v11 then
 (b0k [] [(⟨1,5,2,1,0,v1.1⟩:Claim)] 2 1 1202).bind fun v12=>
 some (!v12)
 else
 some false
 else
 some false
def c0b (a0:Int):Option Bool:=
 (if (decide (a0 >= 97)) then some (decide (a0 <= 122)) else some false).bind fun v1=>
 some v1
def b67 (a0:Int):Option Bool:=
 (if (decide (a0 >= 48)) then some (decide (a0 <= 57)) else some false).bind fun v1=>
 some v1
def c3b (a0:Int):Option Bool:=
 (c0b a0).bind fun v1=>
 (if v1 then some true else (b67 a0).bind fun v2=>
 some v2).bind fun v3=>
 (if v3 then some true else some (a0==95)).bind fun v4=>
 some v4
def c47 (a0:ByteArray) (r6:Int -> Option Bool) (v5:Int):Option Bool:=
 if (decide (v5<(a0.size:Int))) then
 (b03 a0 v5).bind fun v7=>
 (c3b v7).bind fun v8=>
 if (!v8) then
 some false
 else
 r6 (i64 (v5+1))
 else
 some true
def c2w (a0:ByteArray):Option Bool:=
 (if (decide ((a0.size:Int)<1)) then some true else some (decide ((a0.size:Int)>12))).bind fun v1=>
 (if v1 then some true else (b03 a0 0).bind fun v2=>
 (c0b v2).bind fun v3=>
 some (!v3)).bind fun v4=>
 if v4 then
 some false
 else
 d8 FU (c47 a0) 0
def b8y (a0:ByteArray):Option Bool:=
 if (a0.toList==b88.toList) then
 if (a0.toList==b88.toList) then
 some true
 else
 some false
 else
 if (a0.toList==b15.toList) then
 if (a0.toList==b15.toList) then
 some true
 else
 some false
 else
 if (a0.toList==c12.toList) then
 if (a0.toList==c12.toList) then
 some true
 else
 some false
 else
 if (a0.toList==a2h.toList) then
 if (a0.toList==a2h.toList) then
 some true
 else
 some false
 else
 if (a0.toList==a2m.toList) then
 if (a0.toList==a2m.toList) then
 some true
 else
 some false
 else
 if (a0.toList==b4f.toList) then
 if (a0.toList==b4f.toList) then
 some true
 else
 some false
 else
 if (a0.toList==b1r.toList) then
 if (a0.toList==b1r.toList) then
 some true
 else
 some false
 else
 if (a0.toList==b3z.toList) then
 if (a0.toList==b3z.toList) then
 some true
 else
 some false
 else
 if (a0.toList==a3y.toList) then
 if (a0.toList==a3y.toList) then
 some true
 else
 some false
 else
 if (a0.toList==b0e.toList) then
 if (a0.toList==b0e.toList) then
 some true
 else
 some false
 else
 if (a0.toList==a56.toList) then
 if (a0.toList==a56.toList) then
 some true
 else
 some false
 else
 if (a0.toList==b0r.toList) then
 if (a0.toList==b0r.toList) then
 some true
 else
 some false
 else
 if (a0.toList==a8g.toList) then
 if (a0.toList==a8g.toList) then
 some true
 else
 some false
 else
 if (a0.toList==b51.toList) then
 if (a0.toList==b51.toList) then
 some true
 else
 some false
 else
 if (a0.toList==b66.toList) then
 if (a0.toList==b66.toList) then
 some true
 else
 some false
 else
 if (a0.toList==b7o.toList) then
 if (a0.toList==b7o.toList) then
 some true
 else
 some false
 else
 if (a0.toList==c49.toList) then
 if (a0.toList==c49.toList) then
 some true
 else
 some false
 else
 if (a0.toList==b22.toList) then
 if (a0.toList==b22.toList) then
 some true
 else
 some false
 else
 if (a0.toList==a4h.toList) then
 if (a0.toList==a4h.toList) then
 some true
 else
 some false
 else
 if (a0.toList==b1l.toList) then
 if (a0.toList==b1l.toList) then
 some true
 else
 some false
 else
 if (a0.toList==a3v.toList) then
 if (a0.toList==a3v.toList) then
 some true
 else
 some false
 else
 if (a0.toList==b8c.toList) then
 some true
 else
 some false
def a50 (a0:ByteArray):Option Bool:=
 (c2w a0).bind fun v1=>
 (if v1 then (b8y a0).bind fun v2=>
 some (!v2) else some false).bind fun v3=>
 some v3
def b4p:Option (List syntax_entry):=
 some [(⟨c1u,1⟩:syntax_entry),(⟨d0l,2⟩:syntax_entry),(⟨c1n,3⟩:syntax_entry),(⟨c14,4⟩:syntax_entry)]
def b5l (a0:syntax_entry) (a1:Int):Option Bool:=
 some (a0.number==a1)
def a3u (a0:List syntax_entry) (a1_0:Int) (r2:Int -> Option Int) (v1:Int):Option Int:=
 if (decide (v1<(a0.length:Int))) then
 (i7 a0 v1).bind fun v3=>
 (b5l v3 a1_0).bind fun v4=>
 if v4 then
 some v1
 else
 r2 (i64 (v1+1))
 else
 some (-1:Int)
def a0u (a0:List syntax_entry) (a1_0:Int):Option Int:=
 d8 FU (a3u a0 a1_0) 0
def a1l (a0:List syntax_entry) (a1:Int):Option ByteArray:=
 (a0u a0 a1).bind fun v1=>
 if (decide (v1<0)) then
 some a1v
 else
 (i7 a0 v1).bind fun v2=>
 some v2.name
def b48:Option (List syntax_entry):=
 some [(⟨a60,6⟩:syntax_entry),(⟨b3e,9⟩:syntax_entry),(⟨a8h,7⟩:syntax_entry),(⟨c9o,8⟩:syntax_entry),(⟨b82,10⟩:syntax_entry),(⟨a9g,5⟩:syntax_entry)]
def b34 (a0:ByteArray) (a1:ByteArray):Option (ByteArray×ByteArray×Bool):=
 (a5i a0 a1).bind fun v1=>
 if (decide (v1 >= 0)) then
 (b6q a0 0 v1).bind fun v2=>
 (b6q a0 (i64 (v1+(a1.size:Int))) (a0.size:Int)).bind fun v3=>
 some (v2,v3,true)
 else
 some (a0,a1v,false)
def b62 (a0:ByteArray) (a1:ByteArray):Option (ByteArray×ByteArray×Bool):=
 (b34 a0 a1).bind fun v1=>
 some (v1.1,v1.2.1,v1.2.2)
def a64 (a0:ByteArray) (r2:(Int×Int) -> Option (Int×Bool)) (v1:Int×Int):Option (Int×Bool):=
 if (decide (v1.2<(a0.size:Int))) then
 (b03 a0 v1.2).bind fun v3=>
 (b67 v3).bind fun v4=>
 if (!v4) then
 some (0,false)
 else
 (b03 a0 v1.2).bind fun v5=>
 r2 (i64 ((i64 (10*v1.1))+(i64 (IntKind.u8.wrap (v5-48)))),i64 (v1.2+1))
 else
 some (v1.1,true)
def a5r (a0:ByteArray):Option (Int×Bool):=
 d8 FU (a64 a0) (0,0)
def b23 (v23:Int) (r22:(Fraction×Int) -> Option (Fraction×Int×Bool)) (v21:Fraction×Int) (r25:Fraction -> Option (Fraction×Int×Bool)) (v24:Fraction):Option (Fraction×Int×Bool):=
 (b46 v24.Num v23).bind fun v26=>
 (if (v26==0) then (b46 v24.Den v23).bind fun v27=>
 some (v27==0) else some false).bind fun v28=>
 if v28 then
 (b7a v24.Num v23).bind fun v29=>
 (b7a v24.Den v23).bind fun v30=>
 r25 (⟨v29,v30⟩:Fraction)
 else
 r22 (v24,i64 (v21.2+1))
def a1o (v20:Fraction×Int×Int×Int) (r22:(Fraction×Int) -> Option (Fraction×Int×Bool)) (v21:Fraction×Int):Option (Fraction×Int×Bool):=
 if (decide (v21.2<2)) then
 (i7 (⟨[2,5],rfl⟩:Ar 2 Int).l v21.2).bind fun v23=>
 d8 FU (b23 v23 r22 v21) v21.1
 else
 some (v21.1,v20.2.1,true)
def b6r (v20:Fraction×Int×Int×Int):Option (Fraction×Int×Bool):=
 d8 FU (a1o v20) ((⟨i64 (v20.2.2.1+v20.2.2.2),v20.1.Den⟩:Fraction),0)
def b72 (v4:ByteArray×Fraction×Int) (v14:Int×Bool) (r17:(Fraction×Int×(ByteArray×Int)) -> Option (Fraction×Int×Bool)) (v16:Fraction×Int×(ByteArray×Int)):Option (Fraction×Int×Bool):=
 optC (c5l v16.2.2.1 v16.2.2.2) (joinC b6r (v16.1,v4.2.2,v16.2.1,v14.1)) fun v18=>
 (v18).bind fun v19=>
 r17 ((⟨v16.1.Num,i64 (10*v16.1.Den)⟩:Fraction),i64 (10*v16.2.1),(v16.2.2.1,v16.2.2.2+1))
def a6a (v4:ByteArray×Fraction×Int):Option (Fraction×Int×Bool):=
 (b62 v4.1 a9m).bind fun v5=>
 (if (decide ((v5.1.size:Int)<1)) then some true else some (decide ((v5.1.size:Int)>9))).bind fun v6=>
 (if v6 then some true else (if (decide ((v5.1.size:Int)>1)) then (b03 v5.1 0).bind fun v7=>
 some (v7==48) else some false).bind fun v8=>
 some v8).bind fun v9=>
 (if v9 then some true else (if v5.2.2 then (if (decide ((v5.2.1.size:Int)<1)) then some true else some (decide ((v5.2.1.size:Int)>4))).bind fun v10=>
 some v10 else some false).bind fun v11=>
 some v11).bind fun v12=>
 if v12 then
 some ((⟨0,0⟩:Fraction),0,false)
 else
 (a5r v5.1).bind fun v13=>
 (a5r v5.2.1).bind fun v14=>
 (if (!v13.2) then some true else some (!v14.2)).bind fun v15=>
 if v15 then
 some ((⟨0,0⟩:Fraction),0,false)
 else
 d8 FU (b72 v4 v14) ((⟨v4.2.1.Num,1⟩:Fraction),v13.1,(v5.2.1,0))
def b2p (a0:ByteArray):Option (Fraction×Int×Bool):=
 (if (decide ((a0.size:Int)>0)) then (b03 a0 (i64 ((a0.size:Int)-1))).bind fun v1=>
 some (v1==100) else some false).bind fun v2=>
 if v2 then
 (b6q a0 0 (i64 ((a0.size:Int)-1))).bind fun v3=>
 joinC a6a (v3,(⟨0,0⟩:Fraction),3)
 else
 (if (decide ((a0.size:Int)>0)) then (b03 a0 (i64 ((a0.size:Int)-1))).bind fun v31=>
 some (v31==109) else some false).bind fun v32=>
 if v32 then
 (b6q a0 0 (i64 ((a0.size:Int)-1))).bind fun v33=>
 joinC a6a (v33,(⟨0,0⟩:Fraction),4)
 else
 joinC a6a (a0,(⟨0,0⟩:Fraction),2)
def b09 (r8:(Fraction×ByteArray×Int×Int) -> Option (ByteArray×Bool)) (v10:Int×Fraction×ByteArray×Int×Int):Option (ByteArray×Bool):=
 if (v10.2.2.2.2==4) then
 some (a1v,false)
 else
 (b7a (i64 (v10.2.2.2.1*10)) v10.2.1.Den).bind fun v11=>
 (strconv_Itoa v11).bind fun v12=>
 (a4l v10.2.2.1 v12).bind fun v13=>
 (b46 (i64 (v10.2.2.2.1*10)) v10.2.1.Den).bind fun v14=>
 r8 (v10.2.1,v13,v14,i64 (v10.2.2.2.2+1))
def a2v (v16:Int×Fraction×ByteArray):Option (ByteArray×Bool):=
 (b2p v16.2.2).bind fun v17=>
 (if (!v17.2.2) then some true else some (!((v17.1.Num==v16.2.1.Num)&&((v17.1.Den==v16.2.1.Den)&&(true))))).bind fun v18=>
 (if v18 then some true else some (v17.2.1 != v16.1)).bind fun v19=>
 if v19 then
 some (a1v,false)
 else
 some (v16.2.2,true)
def b06 (a1:Int) (r8:(Fraction×ByteArray×Int×Int) -> Option (ByteArray×Bool)) (v7:Fraction×ByteArray×Int×Int):Option (ByteArray×Bool):=
 if (decide (v7.2.2.1>0)) then
 if (v7.2.2.2==0) then
 (a4l v7.2.1 a9m).bind fun v9=>
 joinC (b09 r8) (a1,v7.1,v9,v7.2.2.1,v7.2.2.2)
 else
 joinC (b09 r8) (a1,v7.1,v7.2.1,v7.2.2.1,v7.2.2.2)
 else
 if (a1==3) then
 (a4l v7.2.1 e8r).bind fun v15=>
 joinC a2v (a1,v7.1,v15)
 else
 if (a1==4) then
 (a4l v7.2.1 e62).bind fun v20=>
 joinC a2v (a1,v7.1,v20)
 else
 joinC a2v (a1,v7.1,v7.2.1)
def a0h (a0:Fraction) (a1:Int):Option (ByteArray×Bool):=
 (if (decide (a0.Den<1)) then some true else some (decide (a0.Den>10000))).bind fun v1=>
 (if v1 then some true else some (decide (a0.Num<0))).bind fun v2=>
 (if v2 then some true else some (decide (a0.Num>1000000000000000))).bind fun v3=>
 if v3 then
 some (a1v,false)
 else
 (b7a a0.Num a0.Den).bind fun v4=>
 (strconv_Itoa v4).bind fun v5=>
 (b46 a0.Num a0.Den).bind fun v6=>
 d8 FU (b06 a1) (a0,v5,v6,0)
def b28 (a0:Int):Option Bool:=
 (if (decide (a0 >= 1900)) then some (decide (a0 <= 2099)) else some false).bind fun v1=>
 some v1
def b0m (a0:Index):Option Bool:=
 (a0h a0.Factor 2).bind fun v1=>
 (if v1.2 then some (decide (a0.Factor.Num>0)) else some false).bind fun v2=>
 (if v2 then (b28 a0.Year).bind fun v3=>
 some v3 else some false).bind fun v4=>
 some v4
structure Ring_syntax_Depth where
 f_syntax_Depth:Expr -> Option Int
def b3g (R:Ring_syntax_Depth) (a0:Expr) (r2:(Int×Int) -> Option Int) (v1:Int×Int):Option Int:=
 if (decide (v1.2<(a0.Args.length:Int))) then
 (i7 a0.Args v1.2).bind fun v3=>
 (R.f_syntax_Depth v3).bind fun v4=>
 r2 (max v1.1 v4,i64 (v1.2+1))
 else
 some (i64 (v1.1+1))
def b1d (R:Ring_syntax_Depth) (a0:Expr):Option Int:=
 d8 FU (b3g R a0) (0,0)
def a1r:Nat -> Ring_syntax_Depth
 | 0=>⟨fun _=>none⟩
 | n+1=>⟨b1d (a1r n)⟩
def c31 (a0:Expr):Option Int:=(a1r FU).f_syntax_Depth a0
structure Ring_syntax_Size where
 f_syntax_Size:Expr -> Option Int
def b4v (R:Ring_syntax_Size) (a0:Expr) (r2:(Int×Int) -> Option Int) (v1:Int×Int):Option Int:=
 if (decide (v1.2<(a0.Args.length:Int))) then
 (i7 a0.Args v1.2).bind fun v3=>
 (R.f_syntax_Size v3).bind fun v4=>
 r2 (i64 (v1.1+v4),i64 (v1.2+1))
 else
 some v1.1
def b2r (R:Ring_syntax_Size) (a0:Expr):Option Int:=
 d8 FU (b4v R a0) (1,0)
def a2n:Nat -> Ring_syntax_Size
 | 0=>⟨fun _=>none⟩
 | n+1=>⟨b2r (a2n n)⟩
def c61 (a0:Expr):Option Int:=(a2n FU).f_syntax_Size a0
def a5q (a0:Int):Option Int:=
 (if (a0==1) then some true else some (a0==2)).bind fun v1=>
 (if v1 then some true else some (a0==3)).bind fun v2=>
 if v2 then
 some 0
 else
 (if (a0==4) then some true else some (a0==5)).bind fun v3=>
 (if v3 then some true else some (a0==6)).bind fun v4=>
 if v4 then
 some 1
 else
 (if (decide (a0 >= 7)) then some (decide (a0 <= 20)) else some false).bind fun v5=>
 if v5 then
 some 2
 else
 if (a0==21) then
 some 3
 else
 some (-1:Int)
def a2x (a0:Expr):Option Bool:=
 (a5q a0.Op).bind fun v1=>
 if ((a0.Args.length:Int) != v1) then
 some false
 else
 if (a0.Op==1) then
 (a0h a0.Value a0.Dim).bind fun v2=>
 (if v2.2 then some (a0.Name.toList==a1v.toList) else some false).bind fun v3=>
 some v3
 else
 if (a0.Op==2) then
 (a50 a0.Name).bind fun v4=>
 (if v4 then some ((a0.Value.Num==0)&&((a0.Value.Den==0)&&(true))) else some false).bind fun v5=>
 (if v5 then some (a0.Dim==0) else some false).bind fun v6=>
 some v6
 else
 if (a0.Op==3) then
 (if (a0.Value.Den==1) then some (decide (a0.Value.Num >= 1)) else some false).bind fun v7=>
 (if v7 then some (decide (a0.Value.Num <= 45)) else some false).bind fun v8=>
 (if v8 then some (a0.Dim==0) else some false).bind fun v9=>
 (if v9 then some (a0.Name.toList==a1v.toList) else some false).bind fun v10=>
 some v10
 else
 (if ((a0.Value.Num==0)&&((a0.Value.Den==0)&&(true))) then some (a0.Dim==0) else some false).bind fun v11=>
 (if v11 then some (a0.Name.toList==a1v.toList) else some false).bind fun v12=>
 some v12
structure Ring_syntax_form where
 f_syntax_form:Expr -> Option Bool
 f_syntax_form_1:Expr -> Option Bool
 f_slices_ContainsFunc_of_api_Expr:(List Expr) -> Option Bool
 f_slices_IndexFunc_of_api_Expr:(List Expr) -> Option Int
def b2x (R:Ring_syntax_form) (a0:Expr):Option Bool:=
 (a2x a0).bind fun v1=>
 (if v1 then (R.f_slices_ContainsFunc_of_api_Expr a0.Args).bind fun v2=>
 some (!v2) else some false).bind fun v3=>
 some v3
def a9d (R:Ring_syntax_form) (a0:Expr):Option Bool:=
 (R.f_syntax_form a0).bind fun v1=>
 some (!v1)
def q0 (R:Ring_syntax_form) (a0:List Expr):Option Bool:=
 (R.f_slices_IndexFunc_of_api_Expr a0).bind fun v1=>
 some (decide (v1 >= 0))
def a04 (R:Ring_syntax_form) (a0:List Expr) (r2:Int -> Option Int) (v1:Int):Option Int:=
 if (decide (v1<(a0.length:Int))) then
 (i7 a0 v1).bind fun v3=>
 (R.f_syntax_form_1 v3).bind fun v4=>
 if v4 then
 some v1
 else
 r2 (i64 (v1+1))
 else
 some (-1:Int)
def o4 (R:Ring_syntax_form) (a0:List Expr):Option Int:=
 d8 FU (a04 R a0) 0
def d9:Nat -> Ring_syntax_form
 | 0=>⟨fun _=>none,fun _=>none,fun _=>none,fun _=>none⟩
 | n+1=>⟨b2x (d9 n),a9d (d9 n),q0 (d9 n),o4 (d9 n)⟩
def c4q (a0:Expr):Option Bool:=(d9 FU).f_syntax_form a0
def a0k (a0:Expr):Option Bool:=
 (c31 a0).bind fun v1=>
 (if (decide (v1 <= 10)) then (c61 a0).bind fun v2=>
 some (decide (v2 <= 60)) else some false).bind fun v3=>
 (if v3 then (c4q a0).bind fun v4=>
 some v4 else some false).bind fun v5=>
 some v5
def a77:Option (List syntax_entry):=
 some [(⟨b9t,1⟩:syntax_entry),(⟨a5a,2⟩:syntax_entry),(⟨b1h,3⟩:syntax_entry),(⟨b5i,4⟩:syntax_entry),(⟨b1g,5⟩:syntax_entry)]
def a6j (v38:Version) (r40:Int -> Option Bool) (v39:Int):Option Bool:=
 if (decide (v39<(v38.Reduces.length:Int))) then
 (i7 v38.Reduces v39).bind fun v41=>
 (a77).bind fun v42=>
 (a1l v42 v41.Benefit).bind fun v43=>
 (if (v43.toList==a1v.toList) then some true else (a0k v41.By).bind fun v44=>
 some (!v44)).bind fun v45=>
 if v45 then
 some false
 else
 r40 (i64 (v39+1))
 else
 some true
def a6l (v38:Version):Option Bool:=
 d8 FU (a6j v38) 0
def a6p (v28:Version) (r30:(Version×Int) -> Option Bool) (v29:Version×Int):Option Bool:=
 if (decide (v29.2<(v28.Grants.length:Int))) then
 (i7 v28.Grants v29.2).bind fun v31=>
 (a77).bind fun v32=>
 (a1l v32 v31.Benefit).bind fun v33=>
 (if (v33.toList==a1v.toList) then some true else (a0k v31.If).bind fun v34=>
 some (!v34)).bind fun v35=>
 (if v35 then some true else (a0k v31.Pay).bind fun v36=>
 some (!v36)).bind fun v37=>
 if v37 then
 some false
 else
 r30 (v29.1,i64 (v29.2+1))
 else
 joinC a6l v29.1
def a6q (v28:Version):Option Bool:=
 d8 FU (a6p v28) (v28,0)
def a6m (v21:Version) (r23:(Version×Int) -> Option Bool) (v22:Version×Int):Option Bool:=
 if (decide (v22.2<(v21.Lets.length:Int))) then
 (i7 v21.Lets v22.2).bind fun v24=>
 (a50 v24.Name).bind fun v25=>
 (if (!v25) then some true else (a0k v24.Body).bind fun v26=>
 some (!v26)).bind fun v27=>
 if v27 then
 some false
 else
 r23 (v22.1,i64 (v22.2+1))
 else
 joinC a6q v22.1
def a6i (v21:Version):Option Bool:=
 d8 FU (a6m v21) (v21,0)
def a6o (v16:Version) (r18:(Version×Int) -> Option Bool) (v17:Version×Int):Option Bool:=
 if (decide (v17.2<(v16.Series.length:Int))) then
 (i7 v16.Series v17.2).bind fun v19=>
 (b0m v19).bind fun v20=>
 if (!v20) then
 some false
 else
 r18 (v17.1,i64 (v17.2+1))
 else
 joinC a6i v17.1
def a6k (v16:Version):Option Bool:=
 d8 FU (a6o v16) (v16,0)
def a4v (v4:Version) (r10:(Version×Int) -> Option Bool) (v9:Version×Int):Option Bool:=
 if (decide (v9.2<(v4.Credits.length:Int))) then
 (i7 v4.Credits v9.2).bind fun v11=>
 (b48).bind fun v12=>
 (a1l v12 v11.Kind).bind fun v13=>
 (if (v13.toList==a1v.toList) then some true else some (decide (v11.Limit<0))).bind fun v14=>
 (if v14 then some true else some (decide (v11.Limit>73049))).bind fun v15=>
 if v15 then
 some false
 else
 r10 (v9.1,i64 (v9.2+1))
 else
 joinC a6k v9.1
def a6n (v4:Version):Option Bool:=
 (if (decide ((v4.Credits.length:Int)>6)) then some true else some (decide ((v4.Series.length:Int)>20))).bind fun v5=>
 (if v5 then some true else some (decide ((v4.Lets.length:Int)>10))).bind fun v6=>
 (if v6 then some true else some (decide ((v4.Grants.length:Int)>5))).bind fun v7=>
 (if v7 then some true else some (decide ((v4.Reduces.length:Int)>5))).bind fun v8=>
 if v8 then
 some false
 else
 d8 FU (a4v v4) (v4,0)
def a5t (a0:Version):Option Bool:=
 (a4f a0.From).bind fun v1=>
 if (!v1) then
 (if true then some true else some (decide (a0.Rounding.Unit<1))).bind fun v2=>
 (if v2 then some true else some (decide (a0.Rounding.Unit>100000))).bind fun v3=>
 if v3 then
 some false
 else
 joinC a6n a0
 else
 (b4p).bind fun v46=>
 (a1l v46 a0.Rounding.Mode).bind fun v47=>
 (if (v47.toList==a1v.toList) then some true else some (decide (a0.Rounding.Unit<1))).bind fun v48=>
 (if v48 then some true else some (decide (a0.Rounding.Unit>100000))).bind fun v49=>
 if v49 then
 some false
 else
 joinC a6n a0
def a9c (a0:Statute) (r7:Int -> Option Bool) (v6:Int):Option Bool:=
 if (decide (v6<(a0.Versions.length:Int))) then
 (i7 a0.Versions v6).bind fun v8=>
 (a5t v8).bind fun v9=>
 if (!v9) then
 some false
 else
 r7 (i64 (v6+1))
 else
 some true
def b4q (a0:Statute):Option Bool:=
 (a50 a0.Name).bind fun v1=>
 (if (!v1) then some true else some (decide (a0.Currency<1))).bind fun v2=>
 (if v2 then some true else some (decide (a0.Currency>999))).bind fun v3=>
 (if v3 then some true else some (decide ((a0.Versions.length:Int)<1))).bind fun v4=>
 (if v4 then some true else some (decide ((a0.Versions.length:Int)>6))).bind fun v5=>
 if v5 then
 some false
 else
 d8 FU (a9c a0) 0
def a4p (v2:ByteArray×Bool):Option (Int×Bool):=
 if v2.2 then
 some (3,true)
 else
 if (v2.1.toList==a9r.toList) then
 some (4,true)
 else
 some (0,false)
def b3i (v1:ByteArray×Bool):Option (Int×Bool):=
 if v1.2 then
 some (2,true)
 else
 if (v1.1.toList==a4m.toList) then
 joinC a4p (v1.1,v1.1.toList==a4m.toList)
 else
 if (v1.1.toList==b5g.toList) then
 joinC a4p (v1.1,v1.1.toList==b5g.toList)
 else
 if (v1.1.toList==a60.toList) then
 joinC a4p (v1.1,v1.1.toList==a60.toList)
 else
 if (v1.1.toList==b3e.toList) then
 joinC a4p (v1.1,v1.1.toList==b3e.toList)
 else
 if (v1.1.toList==b31.toList) then
 joinC a4p (v1.1,v1.1.toList==b31.toList)
 else
 if (v1.1.toList==c4t.toList) then
 joinC a4p (v1.1,v1.1.toList==c4t.toList)
 else
 joinC a4p (v1.1,v1.1.toList==d2n.toList)
def a76 (a0:ByteArray):Option (Int×Bool):=
 if (a0.toList==b9x.toList) then
 joinC b3i (a0,a0.toList==b9x.toList)
 else
 if (a0.toList==d6g.toList) then
 joinC b3i (a0,a0.toList==d6g.toList)
 else
 joinC b3i (a0,a0.toList==b1y.toList)
def b2s (a0:ByteArray):Option Bool:=
 (a0k (⟨2,(⟨0,0⟩:Fraction),0,a0,[]⟩:Expr)).bind fun v1=>
 some v1
def c0i (a0:Binding) (a1:Let):Option Bool:=
 some (a0.Name.toList==a1.Name.toList)
def b4r (a0:Binding):Option Bool:=
 (if (decide (a0.Dim<1)) then some true else some (decide (a0.Dim>4))).bind fun v1=>
 some v1
def a61 (a0:ByteArray) (a1:List Binding):Option (Int×Bool):=
 (a76 a0).bind fun v1=>
 if v1.2 then some (v1.1,true) else some (match a1.reverse.find? fun b=>b.Name.toList==a0.toList with | some b=>(b.Dim,true) | none=>(0,false))
def b6t (v30:(List Int)×Int×Bool):Option (Int×Bool):=
 if v30.2.2 then
 (i7 v30.1 0).bind fun v31=>
 (if (v31==1) then (i7 v30.1 1).bind fun v32=>
 some (v32==1) else some false).bind fun v33=>
 some (1,v33)
 else
 if (v30.2.1==21) then
 (i7 v30.1 1).bind fun v34=>
 (i7 v30.1 0).bind fun v35=>
 (if (v35==1) then (i7 v30.1 1).bind fun v36=>
 (i7 v30.1 2).bind fun v37=>
 some (v36==v37) else some false).bind fun v38=>
 some (v34,v38)
 else
 some (0,false)
def a4z (v25:(List Int)×Int×Bool):Option (Int×Bool):=
 if v25.2.2 then
 (i7 v25.1 0).bind fun v26=>
 (i7 v25.1 1).bind fun v27=>
 (if (v26==v27) then (i7 v25.1 0).bind fun v28=>
 some (v28 != 1) else some false).bind fun v29=>
 some (1,v29)
 else
 if (v25.2.1==17) then
 joinC b6t (v25.1,v25.2.1,v25.2.1==17)
 else
 joinC b6t (v25.1,v25.2.1,v25.2.1==18)
def a8m (v5:(List Int)×Int×Bool):Option (Int×Bool):=
 if v5.2.2 then
 (i7 v5.1 0).bind fun v6=>
 (i7 v5.1 0).bind fun v7=>
 (i7 v5.1 1).bind fun v8=>
 (if (v7==v8) then (i7 v5.1 0).bind fun v9=>
 some (v9 != 1) else some false).bind fun v10=>
 some (v6,v10)
 else
 if (v5.2.1==9) then
 (i7 v5.1 0).bind fun v11=>
 if (v11==2) then
 (i7 v5.1 1).bind fun v12=>
 (i7 v5.1 1).bind fun v13=>
 some (v12,v13 != 1)
 else
 (i7 v5.1 0).bind fun v14=>
 (i7 v5.1 1).bind fun v15=>
 (if (v15==2) then (i7 v5.1 0).bind fun v16=>
 some (v16 != 1) else some false).bind fun v17=>
 some (v14,v17)
 else
 if (v5.2.1==10) then
 (i7 v5.1 1).bind fun v18=>
 if (v18==2) then
 (i7 v5.1 0).bind fun v19=>
 (i7 v5.1 0).bind fun v20=>
 some (v19,v20 != 1)
 else
 (i7 v5.1 0).bind fun v21=>
 (i7 v5.1 1).bind fun v22=>
 (if (v21==v22) then (i7 v5.1 0).bind fun v23=>
 some (v23 != 1) else some false).bind fun v24=>
 some (2,v24)
 else
 if (v5.2.1==11) then
 joinC a4z (v5.1,v5.2.1,v5.2.1==11)
 else
 if (v5.2.1==12) then
 joinC a4z (v5.1,v5.2.1,v5.2.1==12)
 else
 if (v5.2.1==13) then
 joinC a4z (v5.1,v5.2.1,v5.2.1==13)
 else
 if (v5.2.1==14) then
 joinC a4z (v5.1,v5.2.1,v5.2.1==14)
 else
 if (v5.2.1==15) then
 joinC a4z (v5.1,v5.2.1,v5.2.1==15)
 else
 joinC a4z (v5.1,v5.2.1,v5.2.1==16)
def b6x (v1:(List Int)×Int×Bool):Option (Int×Bool):=
 if v1.2.2 then
 (i7 v1.1 0).bind fun v2=>
 (i7 v1.1 0).bind fun v3=>
 some (v2,v3 != 1)
 else
 if (v1.2.1==5) then
 (i7 v1.1 0).bind fun v4=>
 some (1,v4==1)
 else
 if (v1.2.1==7) then
 joinC a8m (v1.1,v1.2.1,v1.2.1==7)
 else
 if (v1.2.1==8) then
 joinC a8m (v1.1,v1.2.1,v1.2.1==8)
 else
 if (v1.2.1==19) then
 joinC a8m (v1.1,v1.2.1,v1.2.1==19)
 else
 joinC a8m (v1.1,v1.2.1,v1.2.1==20)
def a9n (a0:Int) (a1:List Int):Option (Int×Bool):=
 if (a0==4) then
 joinC b6x (a1,a0,a0==4)
 else
 joinC b6x (a1,a0,a0==6)
structure Ring_typing_infer where
 f_typing_infer:Expr -> (List Binding) -> Option (Int×Int)
def a99 (R:Ring_typing_infer) (a0:Expr) (a1:List Binding) (r3:(Expr×(List Int)×Int) -> Option (Int×Int)) (v2:Expr×(List Int)×Int):Option (Int×Int):=
 if (decide (v2.2.2<(a0.Args.length:Int))) then
 (i7 a0.Args v2.2.2).bind fun v4=>
 (R.f_typing_infer v4 a1).bind fun v5=>
 if (v5.2 != 0) then
 some (0,v5.2)
 else
 (a8q 8 v2.2.1 [v5.1]).bind fun v6=>
 r3 (v2.1,v6,i64 (v2.2.2+1))
 else
 (a9n v2.1.Op v2.2.1).bind fun v7=>
 if (!v7.2) then
 some (0,6)
 else
 some (v7.1,0)
def a3b (R:Ring_typing_infer) (a0:Expr) (a1:List Binding):Option (Int×Int):=
 if (a0.Op==1) then
 some (a0.Dim,0)
 else
 if (a0.Op==3) then
 some (4,0)
 else
 if (a0.Op==2) then
 (a61 a0.Name a1).bind fun v1=>
 if (!v1.2) then
 some (0,5)
 else
 some (v1.1,0)
 else
 d8 FU (a99 R a0 a1) (a0,[],0)
def w8:Nat -> Ring_typing_infer
 | 0=>⟨fun _ _=>none⟩
 | n+1=>⟨a3b (w8 n)⟩
def c3d (a0:Expr) (a1:List Binding):Option (Int×Int):=(w8 FU).f_typing_infer a0 a1
def p3 (a0:List Binding) (r2:Int -> Option Int) (v1:Int):Option Int:=
 if (decide (v1<(a0.length:Int))) then
 (i7 a0 v1).bind fun v3=>
 (b4r v3).bind fun v4=>
 if v4 then
 some v1
 else
 r2 (i64 (v1+1))
 else
 some (-1:Int)
def y9 (a0:List Binding):Option Int:=
 d8 FU (p3 a0) 0
def p4 (a0:List Binding):Option Bool:=
 (y9 a0).bind fun v1=>
 some (decide (v1 >= 0))
def b1f (a0:Expr) (a1:List Binding):Option (Int×Int):=
 (a0k a0).bind fun v1=>
 (if (!v1) then some true else (p4 a1).bind fun v2=>
 some v2).bind fun v3=>
 if v3 then
 some (0,1)
 else
 (c3d a0 a1).bind fun v4=>
 some (v4.1,v4.2)
def a4w (a0:List Binding) (a1_0:Let) (r2:Int -> Option Int) (v1:Int):Option Int:=
 if (decide (v1<(a0.length:Int))) then
 (i7 a0 v1).bind fun v3=>
 (c0i v3 a1_0).bind fun v4=>
 if v4 then
 some v1
 else
 r2 (i64 (v1+1))
 else
 some (-1:Int)
def a1m (a0:List Binding) (a1_0:Let):Option Int:=
 d8 FU (a4w a0 a1_0) 0
def p9 (a0:List Binding) (a1_0:Let):Option Bool:=
 (a1m a0 a1_0).bind fun v1=>
 some (decide (v1 >= 0))
def a6f (a0:List Let) (r2:((List Binding)×Int) -> Option ((List Binding)×Int)) (v1:(List Binding)×Int):Option ((List Binding)×Int):=
 if (decide (v1.2<(a0.length:Int))) then
 (i7 a0 v1.2).bind fun v3=>
 (a76 v3.Name).bind fun v4=>
 (if v4.2 then some true else (b2s v3.Name).bind fun v5=>
 some (!v5)).bind fun v6=>
 if v6 then
 some ([],5)
 else
 (p9 v1.1 v3).bind fun v7=>
 if v7 then
 some ([],10)
 else
 (b1f v3.Body v1.1).bind fun v8=>
 if (v8.2 != 0) then
 some ([],v8.2)
 else
 (a8q 24 v1.1 [(⟨v3.Name,v8.1⟩:Binding)]).bind fun v9=>
 r2 (v9,i64 (v1.2+1))
 else
 some (v1.1,0)
def b3a (a0:List Let):Option ((List Binding)×Int):=
 if (decide ((a0.length:Int)>10)) then
 some ([],7)
 else
 d8 FU (a6f a0) ([],0)
def b29 (a0:Credit) (a1:Credit):Option Bool:=
 some (a0.Kind==a1.Kind)
def b24 (a0:Grant) (a1:Grant):Option Bool:=
 some (a0.Benefit==a1.Benefit)
def b3v (a0:Expr) (a1:List Binding) (a2:Int):Option Int:=
 (b1f a0 a1).bind fun v1=>
 if (v1.2 != 0) then
 some v1.2
 else
 if (v1.1 != a2) then
 some 6
 else
 some 0
def b1z (a0:Reduce) (a1:Reduce):Option Bool:=
 some (a0.Benefit==a1.Benefit)
def o9 (a0:List Credit) (a1_0:Credit) (r2:Int -> Option Int) (v1:Int):Option Int:=
 if (decide (v1<(a0.length:Int))) then
 (i7 a0 v1).bind fun v3=>
 (b29 v3 a1_0).bind fun v4=>
 if v4 then
 some v1
 else
 r2 (i64 (v1+1))
 else
 some (-1:Int)
def y7 (a0:List Credit) (a1_0:Credit):Option Int:=
 d8 FU (o9 a0 a1_0) 0
def o8 (a0:List Credit) (a1_0:Credit):Option Bool:=
 (y7 a0 a1_0).bind fun v1=>
 some (decide (v1 >= 0))
def p5 (a0:List Grant) (a1_0:Grant) (r2:Int -> Option Int) (v1:Int):Option Int:=
 if (decide (v1<(a0.length:Int))) then
 (i7 a0 v1).bind fun v3=>
 (b24 v3 a1_0).bind fun v4=>
 if v4 then
 some v1
 else
 r2 (i64 (v1+1))
 else
 some (-1:Int)
def a01 (a0:List Grant) (a1_0:Grant):Option Int:=
 d8 FU (p5 a0 a1_0) 0
def p6 (a0:List Grant) (a1_0:Grant):Option Bool:=
 (a01 a0 a1_0).bind fun v1=>
 some (decide (v1 >= 0))
def o7 (a0:List Reduce) (a1_0:Reduce) (r2:Int -> Option Int) (v1:Int):Option Int:=
 if (decide (v1<(a0.length:Int))) then
 (i7 a0 v1).bind fun v3=>
 (b1z v3 a1_0).bind fun v4=>
 if v4 then
 some v1
 else
 r2 (i64 (v1+1))
 else
 some (-1:Int)
def y8 (a0:List Reduce) (a1_0:Reduce):Option Int:=
 d8 FU (o7 a0 a1_0) 0
def o6 (a0:List Reduce) (a1_0:Reduce):Option Bool:=
 (y8 a0 a1_0).bind fun v1=>
 some (decide (v1 >= 0))
def a7y (v12:Version×(List Binding)×Int) (r20:(Version×(List Binding)×Int) -> Option Int) (v19:Version×(List Binding)×Int):Option Int:=
 if (decide (v19.2.2<(v12.1.Reduces.length:Int))) then
 (i7 v12.1.Reduces v19.2.2).bind fun v21=>
 (a2t v19.1.Reduces 0 v19.2.2).bind fun v22=>
 (o6 v22 v21).bind fun v23=>
 if v23 then
 some 10
 else
 (b3v v21.By v19.2.1 2).bind fun v24=>
 if (v24 != 0) then
 some v24
 else
 r20 (v19.1,v19.2.1,i64 (v19.2.2+1))
 else
 some 0
def a7j (v7:Version×(List Binding)×Int) (r13:(Version×(List Binding)×Int) -> Option Int) (v12:Version×(List Binding)×Int):Option Int:=
 if (decide (v12.2.2<(v7.1.Grants.length:Int))) then
 (i7 v7.1.Grants v12.2.2).bind fun v14=>
 (a2t v12.1.Grants 0 v12.2.2).bind fun v15=>
 (p6 v15 v14).bind fun v16=>
 if v16 then
 some 10
 else
 (b3v v14.If v12.2.1 1).bind fun v17=>
 if (v17 != 0) then
 some v17
 else
 (b3v v14.Pay v12.2.1 4).bind fun v18=>
 if (v18 != 0) then
 some v18
 else
 r13 (v12.1,v12.2.1,i64 (v12.2.2+1))
 else
 d8 FU (a7y v12) (v12.1,v12.2.1,0)
def a7v (v2:Version×(List Binding)×Int) (r8:(Version×(List Binding)×Int) -> Option Int) (v7:Version×(List Binding)×Int):Option Int:=
 if (decide (v7.2.2<(v2.1.Series.length:Int))) then
 (i7 v2.1.Series v7.2.2).bind fun v9=>
 (if (decide (v7.2.2>0)) then (i7 v7.1.Series (i64 (v7.2.2-1))).bind fun v10=>
 some (decide (v9.Year <= v10.Year)) else some false).bind fun v11=>
 if v11 then
 some 1
 else
 r8 (v7.1,v7.2.1,i64 (v7.2.2+1))
 else
 d8 FU (a7j v7) (v7.1,v7.2.1,0)
def a7w (a0:Version) (r3:(Version×(List Binding)×Int) -> Option Int) (v2:Version×(List Binding)×Int):Option Int:=
 if (decide (v2.2.2<(a0.Credits.length:Int))) then
 (i7 a0.Credits v2.2.2).bind fun v4=>
 (a2t v2.1.Credits 0 v2.2.2).bind fun v5=>
 (o8 v5 v4).bind fun v6=>
 if v6 then
 some 10
 else
 r3 (v2.1,v2.2.1,i64 (v2.2.2+1))
 else
 d8 FU (a7v v2) (v2.1,v2.2.1,0)
def b1a (a0:Version):Option Int:=
 (b3a a0.Lets).bind fun v1=>
 if (v1.2 != 0) then
 some v1.2
 else
 d8 FU (a7w a0) (a0,v1.1,0)
def b0o (a0:Statute) (r3:(Statute×Int) -> Option (Int×Int)) (v2:Statute×Int):Option (Int×Int):=
 if (decide (v2.2<(a0.Versions.length:Int))) then
 (i7 a0.Versions v2.2).bind fun v4=>
 (if (decide (v2.2>0)) then (i7 v2.1.Versions (i64 (v2.2-1))).bind fun v5=>
 some (decide (v4.From <= v5.From)) else some false).bind fun v6=>
 if v6 then
 some (v2.2,1)
 else
 (b1a v4).bind fun v7=>
 if (v7 != 0) then
 some (v2.2,v7)
 else
 r3 (v2.1,i64 (v2.2+1))
 else
 some (0,0)
def a5c (a0:Statute):Option (Int×Int):=
 (b4q a0).bind fun v1=>
 if (!v1) then
 some (0,1)
 else
 d8 FU (b0o a0) (a0,0)
def a7u (a0:Int) (a1:Int):Option Bool:=
 (if (decide (a0 >= 0)) then some (decide (a0 <= a1)) else some false).bind fun v1=>
 some v1
def b3f (a0:Rules) (r9:(Rules×Int) -> Option Bool) (v8:Rules×Int):Option Bool:=
 if (decide (v8.2<(a0.Members.length:Int))) then
 (i7 a0.Members v8.2).bind fun v10=>
 (a7u v10 5).bind fun v11=>
 (if (!v11) then some true else (if (decide (v8.2>0)) then (i7 v8.1.Members (i64 (v8.2-1))).bind fun v12=>
 some (decide (v10 <= v12)) else some false).bind fun v13=>
 some v13).bind fun v14=>
 if v14 then
 some false
 else
 r9 (v8.1,i64 (v8.2+1))
 else
 some true
def a54 (a0:Rules):Option Bool:=
 (a4f a0.From).bind fun v1=>
 (if (!v1) then some true else (a7u a0.MinDays 73049).bind fun v2=>
 some (!v2)).bind fun v3=>
 (if v3 then some true else (a7u a0.PostingLimit 73049).bind fun v4=>
 some (!v4)).bind fun v5=>
 (if v5 then some true else (a7u a0.Substantial 100).bind fun v6=>
 some (!v6)).bind fun v7=>
 if v7 then
 some false
 else
 d8 FU (b3f a0) (a0,0)
def a2c (a0:List Rules) (r4:Int -> Option Int) (v3:Int):Option Int:=
 if (decide (v3<(a0.length:Int))) then
 (i7 a0 v3).bind fun v5=>
 (a54 v5).bind fun v6=>
 (if (!v6) then some true else (if (decide (v3>0)) then (i7 a0 (i64 (v3-1))).bind fun v7=>
 some (decide (v5.From <= v7.From)) else some false).bind fun v8=>
 some v8).bind fun v9=>
 if v9 then
 some 1
 else
 r4 (i64 (v3+1))
 else
 some 0
def b1n (a0:List Rules):Option Int:=
 if (decide ((a0.length:Int)>8)) then
 some 7
 else
 (if ((a0.length:Int)==0) then some true else (i7 a0 0).bind fun v1=>
 some (v1.From != 0)).bind fun v2=>
 if v2 then
 some 1
 else
 d8 FU (a2c a0) 0
def b92 (a0:Int):Option Bool:=
 (if (decide (a0 >= 1)) then some (decide (a0 <= 999)) else some false).bind fun v1=>
 some v1
def b4i (a0:Int):Option Int:=
 (a4o a0).bind fun v1=>
 if (!v1) then
 some 0
 else
 (b7a a0 12).bind fun v2=>
 (b46 a0 12).bind fun v3=>
 (a0b (i64 (1900+v2)) (i64 (v3+1))).bind fun v4=>
 some v4
def c4v (a0:Int):Option Bool:=
 (b4i a0).bind fun v1=>
 some (decide (v1>0))
def b6n (a0:Int):Option Int:=
 if (decide (a0<0)) then
 some (u64 (-(u64 (a0))))
 else
 some (u64 (a0))
def c4i (r2:(Int×Int) -> Option Int) (v1:Int×Int):Option Int:=
 if (v1.2 != 0) then
 (b46 v1.1 v1.2).bind fun v3=>
 r2 (v1.2,v3)
 else
 some v1.1
def c3h (a0:Int) (a1:Int):Option Int:=
 d8 FU c4i (a0,a1)
def b90 (a0:Fraction):Option Bool:=
 (if (decide (a0.Den >= 1)) then some (decide (a0.Den <= 1000000000)) else some false).bind fun v1=>
 (if v1 then some (decide (a0.Num >= (-1000000000000000:Int))) else some false).bind fun v2=>
 (if v2 then some (decide (a0.Num <= 1000000000000000)) else some false).bind fun v3=>
 (if v3 then (b6n a0.Num).bind fun v4=>
 (b6n a0.Den).bind fun v5=>
 (c3h v4 v5).bind fun v6=>
 some (v6==1) else some false).bind fun v7=>
 some v7
def b9b (a0:Int):Option Bool:=
 (if (decide (a0 >= 1)) then some (decide (a0 <= 1000000)) else some false).bind fun v1=>
 some v1
def b9p (a0:List Rate) (r2:Int -> Option Int) (v1:Int):Option Int:=
 if (decide (v1<(a0.length:Int))) then
 (i7 a0 v1).bind fun v3=>
 (b92 v3.Currency).bind fun v4=>
 (if (!v4) then some true else (c4v v3.Month).bind fun v5=>
 some (!v5)).bind fun v6=>
 (if v6 then some true else (b90 v3.Value).bind fun v7=>
 some (!v7)).bind fun v8=>
 (if v8 then some true else (b9b v3.Value.Num).bind fun v9=>
 some (!v9)).bind fun v10=>
 (if v10 then some true else (b9b v3.Value.Den).bind fun v11=>
 some (!v11)).bind fun v12=>
 if v12 then
 some 1
 else
 (if (decide (v1>0)) then (i7 a0 (i64 (v1-1))).bind fun v13=>
 (if (decide (v13.Currency>v3.Currency)) then some true else (i7 a0 (i64 (v1-1))).bind fun v14=>
 (if (v14.Currency==v3.Currency) then (i7 a0 (i64 (v1-1))).bind fun v15=>
 some (decide (v15.Month >= v3.Month)) else some false).bind fun v16=>
 some v16).bind fun v17=>
 some v17 else some false).bind fun v18=>
 if v18 then
 some 1
 else
 r2 (i64 (v1+1))
 else
 some 0
def a6b (a0:List Rate):Option Int:=
 if (decide ((a0.length:Int)>40)) then
 some 7
 else
 d8 FU (b9p a0) 0
def a8d (v1:Laws×Int) (r9:(Laws×Int) -> Option Int) (v8:Laws×Int):Option Int:=
 if (decide (v8.2<(v1.1.States.length:Int))) then
 (i7 v1.1.States v8.2).bind fun v10=>
 (a5c v10.Statute).bind fun v11=>
 if (v11.2 != 0) then
 some v11.2
 else
 r9 (v8.1,i64 (v8.2+1))
 else
 (b1n v8.1.Treaty).bind fun v12=>
 if (v12 != 0) then
 some v12
 else
 (a6b v8.1.Rates).bind fun v13=>
 some v13
def b4z (a0:Laws) (r2:(Laws×Int) -> Option Int) (v1:Laws×Int):Option Int:=
 if (decide (v1.2<(a0.States.length:Int))) then
 (i7 a0.States v1.2).bind fun v3=>
 (if (decide (v3.State<0)) then some true else some (decide (v3.State >= 6))).bind fun v4=>
 (if v4 then some true else (if (decide (v1.2>0)) then (i7 v1.1.States (i64 (v1.2-1))).bind fun v5=>
 some (decide (v3.State <= v5.State)) else some false).bind fun v6=>
 some v6).bind fun v7=>
 if v7 then
 some 1
 else
 r2 (v1.1,i64 (v1.2+1))
 else
 d8 FU (a8d v1) (v1.1,0)
def b0z (a0:Laws):Option Int:=
 d8 FU (b4z a0) (a0,0)
def b79 (v10:decision_file×Int×Int×(List decision_item)×Int×(List api_Fact)×(List Heir)×(List Int)×Int×Int) (r2:((List decision_item)×(List Int)×Int) -> Option (List decision_item)) (r12:((List decision_item)×(List Heir)×(List Int)×Int) -> Option (List decision_item)) (v11:(List decision_item)×(List Heir)×(List Int)×Int):Option (List decision_item):=
 if (decide (v11.2.2.2<(v10.1.x.States.length:Int))) then
 (i7 v10.1.x.States v11.2.2.2).bind fun v13=>
 none
 else
 r2 (v11.1,v11.2.2.1,i64 (v10.2.2.2.2.2.2.2.2.2+1))
def b75 (r2:((List decision_item)×(List Int)×Int) -> Option (List decision_item)) (v10:decision_file×Int×Int×(List decision_item)×Int×(List api_Fact)×(List Heir)×(List Int)×Int×Int):Option (List decision_item):=
 d8 FU (b79 v10 r2) (v10.2.2.2.1,v10.2.2.2.2.2.2.1,v10.2.2.2.2.2.2.2.1,0)
def b0f (a0:decision_file) (a1:Int) (a2:Int) (r2:((List decision_item)×(List Int)×Int) -> Option (List decision_item)) (v1:(List decision_item)×(List Int)×Int):Option (List decision_item):=
 if (decide (v1.2.2<([1,2,3].length:Int))) then
 (i7 v1.2.1 v1.2.2).bind fun v3=>
 (i7 v1.2.1 v1.2.2).bind fun v4=>
 (s4 a0 v4 a1 a2).bind fun v5=>
 if (!v5) then
 r2 (v1.1,v1.2.1,i64 (v1.2.2+1))
 else
 if (v4==3) then
 (a1f a0 v4 a1).bind fun v6=>
 (i7 v6 0).bind fun v7=>
 (i7 v6 0).bind fun v8=>
 (b1u a0.facts v8.Ref).bind fun v9=>
 none
 else
 joinC (b75 r2) (a0,a1,a2,v1.1,v4,a0.own,[],v1.2.1,([1,2,3].length:Int),v1.2.2)
 else
 some v1.1
def a5u (a0:decision_file) (a1:Int) (a2:Int):Option (List decision_item):=
 d8 FU (b0f a0 a1 a2) ([],[1,2,3],0)
def c2c (a0:List decision_item) (r2:((List Gross)×Int) -> Option (List Gross)) (v1:(List Gross)×Int):Option (List Gross):=
 if (decide (v1.2<(a0.length:Int))) then
 (i7 a0 v1.2).bind fun v3=>
 (a8q 56 v1.1 [v3.gross]).bind fun v4=>
 r2 (v4,i64 (v1.2+1))
 else
 some v1.1
def b4w (a0:List decision_item):Option (List Gross):=
 d8 FU (c2c a0) ([],0)
def c0p (a0:List Gross) (r2:Int -> Option Bool) (v1:Int):Option Bool:=
 if (decide (v1<(a0.length:Int))) then
 (i7 a0 v1).bind fun v3=>
 none
 else
 some true
def b3n (a0:List Gross):Option Bool:=
 if (decide ((a0.length:Int)>18)) then
 some false
 else
 d8 FU (c0p a0) 0
def a9a (a0:List Gross) (r10:((List (List Int))×(List Deduction)×Int) -> Option ((List Deduction)×Int)) (v9:(List (List Int))×(List Deduction)×Int):Option ((List Deduction)×Int):=
 if (decide (v9.2.2<(a0.length:Int))) then
 (i7 a0 v9.2.2).bind fun v11=>
 none
 else
 some (v9.2.1,0)
def a96 (a0:List Gross) (r8:((List (List Int))×Int) -> Option ((List Deduction)×Int)) (v7:(List (List Int))×Int):Option ((List Deduction)×Int):=
 if (decide (v7.2<(a0.length:Int))) then
 none
 else
 d8 FU (a9a a0) (v7.1,[],0)
def a5e (a0:List Gross) (a1:List Rate) (a2:Int):Option ((List Deduction)×Int):=
 (b3n a0).bind fun v1=>
 (if (!v1) then some true else some (decide (a2<0))).bind fun v2=>
 (if v2 then some true else some (decide (a2>2399))).bind fun v3=>
 (if v3 then some true else (a6b a1).bind fun v4=>
 some (v4 != 0)).bind fun v5=>
 if v5 then
 some ([],1)
 else
 (mkI 24 ([]:List Int) (a0.length:Int) (a0.length:Int)).bind fun v6=>
 d8 FU (a96 a0) (v6,0)
def c0h (v8:(List Net)×(List Deduction)×Int) (r17:((List Net)×Int) -> Option ((List Net)×Int)) (v16:(List Net)×Int):Option ((List Net)×Int):=
 if (decide (v16.2<(v8.1.length:Int))) then
 (i7 v16.1 v16.2).bind fun v18=>
 (i7 v16.1 v16.2).bind fun v19=>
 (i7 v16.1 v16.2).bind fun v20=>
 (i7 v16.1 v16.2).bind fun v21=>
 (i7 v16.1 v16.2).bind fun v22=>
 r17 (a8b v16.1 v16.2 (⟨v22.State,v22.Benefit,v22.Currency,v22.Independent,v22.ProRata,v22.Deducted,max (i64 (v19.Independent-v20.Deducted)) v21.ProRata⟩:Net),i64 (v16.2+1))
 else
 some (v16.1,0)
def c1v (v3:(List Deduction)×(List Net)×Int) (r9:((List Net)×(List Deduction)×Int) -> Option ((List Net)×Int)) (v8:(List Net)×(List Deduction)×Int):Option ((List Net)×Int):=
 if (decide (v8.2.2<(v3.1.length:Int))) then
 (i7 v8.2.1 v8.2.2).bind fun v10=>
 (i7 v8.2.1 v8.2.2).bind fun v11=>
 (i7 v8.1 v11.By).bind fun v12=>
 (i7 v8.1 v11.By).bind fun v13=>
 (i7 v8.1 v11.By).bind fun v14=>
 (i7 v8.1 v11.By).bind fun v15=>
 r9 (a8b v8.1 v11.By (⟨v15.State,v15.Benefit,v15.Currency,v15.Independent,v15.ProRata,min (i64 (v13.Deducted+v11.Amount)) v14.Independent,v15.Amount⟩:Net),v8.2.1,i64 (v8.2.2+1))
 else
 d8 FU (c0h v8) (v8.1,0)
def b4b (a0:List Gross) (r4:((List Deduction)×(List Net)×Int) -> Option ((List Net)×Int)) (v3:(List Deduction)×(List Net)×Int):Option ((List Net)×Int):=
 if (decide (v3.2.2<(a0.length:Int))) then
 (i7 a0 v3.2.2).bind fun v5=>
 (i7 v3.2.1 v3.2.2).bind fun v6=>
 (i7 v3.2.1 v3.2.2).bind fun v7=>
 r4 (v3.1,a8b v3.2.1 v3.2.2 (⟨v5.State,v5.Benefit,v5.Currency,v5.Independent,v5.ProRata,0,0⟩:Net),i64 (v3.2.2+1))
 else
 d8 FU (c1v v3) (v3.2.1,v3.1,0)
def a9q (a0:List Gross) (a1:List Rate) (a2:Int):Option ((List Net)×Int):=
 (a5e a0 a1 a2).bind fun v1=>
 if (v1.2 != 0) then
 some ([],v1.2)
 else
 (mkI 56 (⟨0,0,0,0,0,0,0⟩:Net) (a0.length:Int) (a0.length:Int)).bind fun v2=>
 d8 FU (b4b a0) (v1.1,v2,0)
def b2j (a0:Net) (a1:Net):Option Bool:=
 (if (a0.State==a1.State) then some (a0.Benefit==1) else some false).bind fun v1=>
 (if v1 then some (decide (a0.Amount>0)) else some false).bind fun v2=>
 some v2
def b2i (a0:Net) (a1:Net):Option Bool:=
 (if (a0.State==a1.State) then some (a0.Benefit==2) else some false).bind fun v1=>
 (if v1 then some (a0.Currency==a1.Currency) else some false).bind fun v2=>
 some v2
def a4b (a0:List Net) (a1_0:Net) (r2:Int -> Option Int) (v1:Int):Option Int:=
 if (decide (v1<(a0.length:Int))) then
 (i7 a0 v1).bind fun v3=>
 (b2j v3 a1_0).bind fun v4=>
 if v4 then
 some v1
 else
 r2 (i64 (v1+1))
 else
 some (-1:Int)
def a1a (a0:List Net) (a1_0:Net):Option Int:=
 d8 FU (a4b a0 a1_0) 0
def a48 (a0:List Net) (a1_0:Net) (r2:Int -> Option Int) (v1:Int):Option Int:=
 if (decide (v1<(a0.length:Int))) then
 (i7 a0 v1).bind fun v3=>
 (b2i v3 a1_0).bind fun v4=>
 if v4 then
 some v1
 else
 r2 (i64 (v1+1))
 else
 some (-1:Int)
def a1b (a0:List Net) (a1_0:Net):Option Int:=
 d8 FU (a48 a0 a1_0) 0
def b7u (a0:List Net) (r19:((List Int)×(List Bool)×(List Net)×Int) -> Option (List Net)) (v18:(List Int)×(List Bool)×(List Net)×Int):Option (List Net):=
 if (decide (v18.2.2.2<(a0.length:Int))) then
 (i7 a0 v18.2.2.2).bind fun v20=>
 (i7 v18.2.1 v18.2.2.2).bind fun v21=>
 (i7 v18.2.1 v18.2.2.2).bind fun v22=>
 if (!v22) then
 (i7 v18.1 v18.2.2.2).bind fun v23=>
 (i7 v18.1 v18.2.2.2).bind fun v24=>
 (a8q 56 v18.2.2.1 [(⟨v20.State,v20.Benefit,v20.Currency,v20.Independent,v20.ProRata,v20.Deducted,v24⟩:Net)]).bind fun v25=>
 r19 (v18.1,v18.2.1,v25,i64 (v18.2.2.2+1))
 else
 r19 (v18.1,v18.2.1,v18.2.2.1,i64 (v18.2.2.2+1))
 else
 some v18.2.2.1
def b7r (a0:List Net) (r9:((List Int)×(List Bool)×Int) -> Option (List Net)) (v8:(List Int)×(List Bool)×Int):Option (List Net):=
 if (decide (v8.2.2<(a0.length:Int))) then
 (i7 a0 v8.2.2).bind fun v10=>
 (a1a a0 v10).bind fun v11=>
 if (v11 != v8.2.2) then
 r9 (v8.1,v8.2.1,i64 (v8.2.2+1))
 else
 (a1b a0 v10).bind fun v12=>
 if (decide (v12 >= 0)) then
 (i7 a0 v12).bind fun v13=>
 (i7 v8.1 v8.2.2).bind fun v14=>
 (i7 v8.1 v8.2.2).bind fun v15=>
 (i7 v8.2.1 v12).bind fun v16=>
 (i7 v8.2.1 v12).bind fun v17=>
 r9 (a8b v8.1 v8.2.2 (max v10.Amount v13.Amount),a8b v8.2.1 v12 true,i64 (v8.2.2+1))
 else
 r9 (v8.1,v8.2.1,i64 (v8.2.2+1))
 else
 d8 FU (b7u a0) (v8.1,v8.2.1,[],0)
def b86 (a0:List Net) (r4:((List Int)×(List Bool)×Int) -> Option (List Net)) (v3:(List Int)×(List Bool)×Int):Option (List Net):=
 if (decide (v3.2.2<(a0.length:Int))) then
 (i7 a0 v3.2.2).bind fun v5=>
 (i7 v3.1 v3.2.2).bind fun v6=>
 (i7 v3.1 v3.2.2).bind fun v7=>
 r4 (a8b v3.1 v3.2.2 v5.Amount,v3.2.1,i64 (v3.2.2+1))
 else
 d8 FU (b7r a0) (v3.1,v3.2.1,0)
def a6u (a0:List Net):Option (List Net):=
 (mkI 8 (0:Int) (a0.length:Int) (a0.length:Int)).bind fun v1=>
 (mkI 1 (false:Bool) (a0.length:Int) (a0.length:Int)).bind fun v2=>
 d8 FU (b86 a0) (v1,v2,0)
def a35 (v1:List Claim) (a0:decision_file) (a2:Int) (r3:((List Net)×(List Claim)×Int) -> Option (List Net)) (v2:(List Net)×(List Claim)×Int):Option (List Net):=
 if (decide (v2.2.2<(v1.length:Int))) then
 (i7 v2.2.1 v2.2.2).bind fun v4=>
 (i7 v2.2.1 v2.2.2).bind fun v5=>
 (a0r a0 v5.Ref a2).bind fun v6=>
 if (!v6) then
 r3 (v2.1,v2.2.1,i64 (v2.2.2+1))
 else
 none
 else
 some v2.1
def a2u (a0:decision_file) (a1:Int) (a2:Int):Option (List Net):=
 (a1f a0 4 a1).bind fun v1=>
 d8 FU (a35 v1 a0 a2) ([],v1,0)
def a75 (a0:Net):Option Bool:=
 some (decide (a0.Amount <= 0))
def b1s (a0:Net) (a1:Net):Option Int:=
 (m6 a0.State a1.State).bind fun v1=>
 (m6 a0.Benefit a1.Benefit).bind fun v2=>
 (a4a [v1,v2]).bind fun v3=>
 some v3
def a3w (a0:List Net) (r2:Int -> Option Int) (v1:Int):Option Int:=
 if (decide (v1<(a0.length:Int))) then
 (i7 a0 v1).bind fun v3=>
 (a75 v3).bind fun v4=>
 if v4 then
 some v1
 else
 r2 (i64 (v1+1))
 else
 some (-1:Int)
def a15 (a0:List Net):Option Int:=
 d8 FU (a3w a0) 0
def a3p (r3:((List Net)×Int×Int) -> Option (List Net)) (v2:(List Net)×Int×Int):Option (List Net):=
 if (decide (v2.2.2<(v2.1.length:Int))) then
 (i7 v2.1 v2.2.2).bind fun v4=>
 (i7 v2.1 v2.2.2).bind fun v5=>
 (a75 v5).bind fun v6=>
 if (!v6) then
 (i7 v2.1 v2.2.1).bind fun v7=>
 (i7 v2.1 v2.2.1).bind fun v8=>
 r3 (a8b v2.1 v2.2.1 v5,i64 (v2.2.1+1),i64 (v2.2.2+1))
 else
 r3 (v2.1,v2.2.1,i64 (v2.2.2+1))
 else
 (a2t v2.1 v2.2.1 (v2.1.length:Int)).bind fun v9=>
 (f6i (⟨0,0,0,0,0,0,0⟩:Net) v2.1 v2.2.1 v9.length).bind fun v10=>
 (a2t v10 0 v2.2.1).bind fun v11=>
 some v11
def o5 (a0:List Net):Option (List Net):=
 (a15 a0).bind fun v1=>
 if (v1==(-1:Int)) then
 some a0
 else
 d8 FU a3p (a0,v1,i64 (v1+1))
def a1w (a1:Int) (r2:((List Net)×Int) -> Option (List Net)) (v1:(List Net)×Int) (r4:((List Net)×Int) -> Option (List Net)) (v3:(List Net)×Int):Option (List Net):=
 (if (decide (v3.2>a1)) then (i7 v3.1 v3.2).bind fun v5=>
 (i7 v3.1 v3.2).bind fun v6=>
 (i7 v3.1 (i64 (v3.2-1))).bind fun v7=>
 (i7 v3.1 (i64 (v3.2-1))).bind fun v8=>
 (b1s v6 v8).bind fun v9=>
 some (decide (v9<0)) else some false).bind fun v10=>
 if v10 then
 (i7 v3.1 (i64 (v3.2-1))).bind fun v11=>
 (i7 v3.1 (i64 (v3.2-1))).bind fun v12=>
 (i7 v3.1 v3.2).bind fun v13=>
 (i7 v3.1 v3.2).bind fun v14=>
 (i7 v3.1 v3.2).bind fun v15=>
 (i7 v3.1 v3.2).bind fun v16=>
 (i7 (a8b v3.1 v3.2 v12) (i64 (v3.2-1))).bind fun v17=>
 (i7 (a8b v3.1 v3.2 v12) (i64 (v3.2-1))).bind fun v18=>
 r4 (a8b (a8b v3.1 v3.2 v12) (i64 (v3.2-1)) v14,i64 (v3.2-1))
 else
 r2 (v3.1,i64 (v1.2+1))
def a1y (a2:Int) (a1:Int) (r2:((List Net)×Int) -> Option (List Net)) (v1:(List Net)×Int):Option (List Net):=
 if (decide (v1.2<a2)) then
 d8 FU (a1w a1 r2 v1) (v1.1,v1.2)
 else
 some v1.1
def p8 (a0:List Net) (a1:Int) (a2:Int):Option (List Net):=
 d8 FU (a1y a2 a1) (a0,i64 (a1+1))
def a3e (a1:Int) (v5:(List Net)×Int) (r6:((List Net)×Int) -> Option (List Net)) (r8:((List Net)×Int×Int) -> Option (List Net)) (v7:(List Net)×Int×Int):Option (List Net):=
 if (decide (v7.2.2 <= a1)) then
 none
 else
 if (decide ((i64 (v7.2.1+v5.2))<a1)) then
 none
 else
 r6 (v7.1,i64 (v5.2*2))
def a3a (a1:Int) (r6:((List Net)×Int) -> Option (List Net)) (v5:(List Net)×Int):Option (List Net):=
 if (decide (v5.2<a1)) then
 d8 FU (a3e a1 v5 r6) (v5.1,0,i64 (2*v5.2))
 else
 some v5.1
def a3c (a1:Int) (r2:((List Net)×Int×Int) -> Option (List Net)) (v1:(List Net)×Int×Int):Option (List Net):=
 if (decide (v1.2.2 <= a1)) then
 (p8 v1.1 v1.2.1 v1.2.2).bind fun v3=>
 r2 (v3,v1.2.2,i64 (v1.2.2+20))
 else
 (p8 v1.1 v1.2.1 a1).bind fun v4=>
 d8 FU (a3a a1) (v4,20)
def a0m (a0:List Net) (a1:Int):Option (List Net):=
 d8 FU (a3c a1) (a0,0,20)
def m8 (a0:List Net):Option (List Net):=
 (a0m a0 (a0.length:Int)).bind fun v1=>
 some v1
def b78 (v4:decision_file×Int×Int×(List Net)) (r10:((List Net)×Int) -> Option (List Net)) (v9:(List Net)×Int):Option (List Net):=
 if (decide (v9.2<(v4.1.x.States.length:Int))) then
 (i7 v4.1.x.States v9.2).bind fun v11=>
 none
 else
 (o5 v9.1).bind fun v12=>
 (m8 v12).bind fun v13=>
 some v13
def a4t (v4:decision_file×Int×Int×(List Net)):Option (List Net):=
 (a6u v4.2.2.2).bind fun v5=>
 (a2u v4.1 v4.2.1 v4.2.2.1).bind fun v6=>
 (a8q 56 v5 v6).bind fun v7=>
 (s4 v4.1 5 v4.2.1 v4.2.2.1).bind fun v8=>
 if v8 then
 d8 FU (b78 v4) (v7,0)
 else
 (o5 v7).bind fun v14=>
 (m8 v14).bind fun v15=>
 some v15
def a5w (a0:decision_file) (a1:Int) (a2:Int):Option (List Net):=
 (a5u a0 a1 a2).bind fun v1=>
 (b4w v1).bind fun v2=>
 (a9q v2 a0.x.Rates a1).bind fun v3=>
 if (v3.2 != 0) then
 joinC a4t (a0,a1,a2,[])
 else
 joinC a4t (a0,a1,a2,v3.1)
def b13 (a0:Laws) (a1:List api_Fact) (a2:List Claim) (a3:Int) (a4:Int):Option (List Net):=
 (a1p a4).bind fun v1=>
 (if (!v1.2) then some true else (b0z a0).bind fun v2=>
 some (v2 != 0)).bind fun v3=>
 if v3 then
 some []
 else
 (a9u a0 a1 a2 a3).bind fun v4=>
 optC v4 (none) fun v5=>
 (a5w v5 a4 v1.1).bind fun v6=>
 some v6
def a1x (a0:pensionlaw26_Seeds) (a1:Int) (a2:Int):Option Bool:=
 (a7q a0).bind fun v1=>
 (a63 a1).bind fun v2=>
 (a6r a2).bind fun v3=>
 (a7h v1.2.1 []).bind fun v4=>
 (b1u v4 v2).bind fun v5=>
 (a8x v5).bind fun v6=>
 (a1p v3).bind fun v7=>
 (if (!v7.2) then some true else (b00).bind fun v8=>
 some (!v8)).bind fun v9=>
 if v9 then
 some false
 else
 (if (!v6.2) then some true else some (decide (v6.1 >= v7.1))).bind fun v10=>
 if v10 then
 some true
 else
 (b13 v1.1 v1.2.1 v1.2.2 v2 v3).bind fun v11=>
 some ((v11.length:Int)==0)
end Go.PL
namespace Go.PL
open Go
theorem j8 {n:Int} (h0: -9223372036854775808 <= n) (h1:n <= 9223372036854775807):i64 n=n:=by
 unfold i64;rw [IntKind.wrap_i64];omega
theorem e3g {n:Int} (h0:0 <= n) (h1:n <= 18446744073709551615):u64 n=n:=by
 unfold u64;rw [IntKind.wrap_u64];omega
theorem f8b (n:Int):u64 n=n%18446744073709551616:=by unfold u64;rw [IntKind.wrap_u64]
theorem c1f (n:Int):0 <= u64 n /\ u64 n <= 18446744073709551615:=by rw [f8b];omega
theorem e3s {α:Type} {l:List α} {i:Int} (h0:0 <= i) (h1:i<(l.length:Int)): ∃x,i7 l i=some x /\ l[i.toNat]? =some x:=by
 have:i.toNat<l.length:=by omega
 exact ⟨l[i.toNat],by unfold i7;rw [if_pos h0];exact List.getElem?_eq_getElem this,List.getElem?_eq_getElem this⟩
theorem b2o {α:Type} (l:List α) (k:Nat):i7 l (k:Int)=l[k]? :=by unfold i7;rw [if_pos (Int.natCast_nonneg k),Int.toNat_natCast]
theorem e0r {α:Type} {l:List α} {i:Int} {x:α} (h0:0 <= i) (h:l[i.toNat]? =some x):i7 l i=some x:=by unfold i7;rw [if_pos h0];exact h
theorem b1m {b e:Bool}:(if b=true then some true else some e)=some (b||e):=by cases b<;>rfl
theorem a5n {b e:Bool}:(if b=true then some e else some false)=some (b&&e):=by cases b<;>rfl
theorem c4g {σ ρ:Type} {f:(σ -> Option ρ) -> σ -> Option ρ} (I:σ -> Prop) (μ:σ -> Nat) (Q:ρ -> Prop)
  (step: ∀s rec,I s -> (∃r,f rec s=some r /\ Q r) \/ ∃s',f rec s=rec s' /\ I s' /\ μ s'<μ s): ∀(k:Nat) (s:σ),I s -> μ s<k -> ∃r,d8 k f s=some r /\ Q r
 | 0,_,_,h=>absurd h (Nat.not_lt_zero _)
 | k+1,s,hs,hk=>by
   rcases step s (d8 k f) hs with ⟨r,h1,h2⟩ | ⟨s',h1,h2,h3⟩
   ·exact ⟨r,h1,h2⟩
   ·obtain ⟨r,h4,h5⟩:=c4g I μ Q step k s' h2 (by omega)
    exact ⟨r,by show f (d8 k f) s=_;rw [h1,h4],h5⟩
theorem b2v {σ ρ:Type} {f:(σ -> Option ρ) -> σ -> Option ρ} (I:σ -> Prop) (μ:σ -> Nat) (Q:ρ -> Prop) {s:σ} (h0:I s) (hμ:μ s<2^70)
  (step: ∀s rec,I s -> (∃r,f rec s=some r /\ Q r) \/ ∃s',f rec s=rec s' /\ I s' /\ μ s'<μ s): ∃r,d8 FU f s=some r /\ Q r:=
 c4g I μ Q step FU s h0 (by unfold FU;exact hμ)
theorem c67 {σ ρ:Type} {f:(σ -> Option ρ) -> σ -> Option ρ} (I:σ -> Prop) (μ:σ -> Nat) (Q:Option ρ -> Prop)
  (step: ∀s rec,I s -> Q (f rec s) \/ ∃s',f rec s=rec s' /\ I s' /\ μ s'<μ s): ∀(k:Nat) (s:σ),I s -> μ s<k -> Q (d8 k f s)
 | 0,_,_,h=>absurd h (Nat.not_lt_zero _)
 | k+1,s,hs,hk=>by
   rcases step s (d8 k f) hs with h1 | ⟨s',h1,h2,h3⟩
   ·exact h1
   ·show Q (f (d8 k f) s)
    rw [h1]
    exact c67 I μ Q step k s' h2 (by omega)
theorem c0l {σ ρ:Type} {f:(σ -> Option ρ) -> σ -> Option ρ} (I:σ -> Prop) (μ:σ -> Nat) (Q:Option ρ -> Prop) {s:σ} (h0:I s) (hμ:μ s<2^70)
  (step: ∀s rec,I s -> Q (f rec s) \/ ∃s',f rec s=rec s' /\ I s' /\ μ s'<μ s):Q (d8 FU f s):=
 c67 I μ Q step FU s h0 (by unfold FU;exact hμ)
theorem c28 {a b:Int} (h:b≠0):b46 a b=some (a.tmod b):=by unfold b46;rw [if_neg h]
theorem d5k {a b:Int} (h:b≠0):b7a a b=some (i64 (a.tdiv b)):=by unfold b7a;rw [if_neg h]
theorem a85 {α:Type} {bytes:Nat} {l x:List α} (h:(l.length+x.length)*bytes <= 140737488355328):a8q bytes l x=some (l++x):=by unfold a8q;rw [if_pos h]
theorem b5r {α:Type} {l:List α} {lo hi:Int} (h0:0 <= lo) (h1:lo <= hi) (h2:hi <= (l.length:Int)):a2t l lo hi=some ((l.drop lo.toNat).take (hi.toNat-lo.toNat)):=by
 unfold a2t;rw [if_pos ⟨h0,h1,h2⟩]
theorem c5t {a b:Int} (h:0 <= a):a.tmod b=a%b:=Int.tmod_eq_emod_of_nonneg h
theorem d3z {a b:Int} (h:0 <= a):a.tdiv b=a/b:=Int.tdiv_eq_ediv_of_nonneg h
end Go.PL
namespace Go.PL
open Go
theorem a9s {σ ρ S α:Type} {f:(σ -> Option ρ) -> σ -> Option ρ} (l:List α) (e:S -> Int -> σ) (I:S -> Nat -> Prop) (Q:Option ρ -> Prop) (hl:l.length<2^62)
  (hstep: ∀rec s (i:Nat) y,i<l.length -> l[i]? =some y -> I s i -> Q (f rec (e s (i:Int))) \/ ∃s',f rec (e s (i:Int))=rec (e s' ((i+1:Nat):Int)) /\ I s' (i+1))
  (hfin: ∀rec s,I s l.length -> Q (f rec (e s (l.length:Int)))) (s:S) (h0:I s 0):Q (d8 FU f (e s 0)):=by
 have key: ∀(k:Nat) (s:S) (i:Nat),i <= l.length -> I s i -> l.length-i<k -> Q (d8 k f (e s (i:Int))):=by
  intro k
  induction k with
  | zero=>intro s i _ _ h;omega
  | succ k ih=>
    intro s i hi hI hk
    show Q (f (d8 k f) (e s (i:Int)))
    by_cases h:i<l.length
    ·rcases hstep (d8 k f) s i l[i] h (List.getElem?_eq_getElem h) hI with h1 | ⟨s',h1,h2⟩
     ·exact h1
     ·rw [h1];exact ih s' (i+1) (by omega) h2 (by omega)
    ·have:i=l.length:=by omega
     subst this
     exact hfin _ _ hI
 have:(0:Int)=((0:Nat):Int):=rfl
 rw [this]
 exact key FU s 0 (Nat.zero_le _) h0 (by unfold FU;omega)
theorem b40 {x:Nat} (h:x<2^62):i64 ((x:Int)+1)=((x+1:Nat):Int):=by rw [j8 (by omega) (by omega)];simp
theorem b50 {α:Type} {l:List α} {i:Nat} {y:α} (h:l[i]? =some y):i7 l (i:Int)=some y:=by rw [b2o];exact h
theorem b7e {α:Type} {l:List α} {i:Nat} {y:α} (h:l[i]? =some y):l.take (i+1)=l.take i++[y]:=by
 have hi:i<l.length:=by
  rcases Nat.lt_or_ge i l.length with h1 | h1
  ·exact h1
  ·rw [List.getElem?_eq_none h1] at h;cases h
 rw [List.take_succ_eq_append_getElem hi]
 rw [List.getElem?_eq_getElem hi] at h
 rw [Option.some.inj h]
theorem d94 {α β:Type} {g:β -> α -> β} {l:List α} {i:Nat} {y:α} {b:β} (h:l[i]? =some y):(l.take (i+1)).foldl g b=g ((l.take i).foldl g b) y:=by
 rw [b7e h,List.foldl_append];rfl
end Go.PL
namespace Go.PL
open Go Go.SX
def Tot {α:Type} (o:Option α) (Q:α -> Prop):Prop:= ∃a,o=some a /\ Q a
section
variable {α β:Type} {o:Option α} {Q R:α -> Prop} {S:β -> Prop} {f:α -> Option β} {a:α}
theorem Tot.some (h:Q a):Tot (some a) Q:=⟨a,rfl,h⟩
theorem Tot.bind (h:Tot o Q) (hf: ∀a,Q a -> Tot (f a) S):Tot (Option.bind o f) S:=by
 obtain ⟨a,rfl,hq⟩:=h
 exact hf a hq
theorem Tot.ite {c:Prop} [Decidable c] {x y:Option α} (h1:c -> Tot x Q) (h2: ¬c -> Tot y Q):Tot (if c then x else y) Q:=by
 split
 ·exact h1 (by assumption)
 ·exact h2 (by assumption)
theorem Tot.join (h:Tot (f a) S):Tot (joinC f a) S:=h
end
theorem Tot.loop {σ ρ:Type} {f:(σ -> Option ρ) -> σ -> Option ρ} (I:σ -> Prop) (μ:σ -> Nat) {Q:ρ -> Prop} {s:σ} (h0:I s) (hμ:μ s<2^70) (step: ∀(r:σ -> Option ρ) (s:σ),I s -> (∀s',I s' -> μ s'<μ s -> Tot (r s') Q) -> Tot (f r s) Q):Tot (d8 FU f s) Q:=by
 have key: ∀(k:Nat) (s:σ),I s -> μ s<k -> Tot (d8 k f s) Q:=by
  intro k
  induction k with
  | zero=>intro s _ h;omega
  | succ k ih=>
    intro s hI hk
    exact step (d8 k f) s hI fun s' h1 h2=>ih s' h1 (by omega)
 exact key FU s h0 (by unfold FU;exact hμ)
theorem e6r {s:ByteArray} {i:Int} (h0:0 <= i) (h1:i<(s.size:Int)):Tot (b03 s i) fun b=>0 <= b /\ b <= 255:=by
 unfold b03
 rw [if_pos h0]
 have hlt:i.toNat<s.size:=by omega
 rw [getElem?_pos s i.toNat hlt]
 refine ⟨_,rfl,?_⟩
 have:=(s[i.toNat]'hlt).toNat_lt
 exact ⟨Int.natCast_nonneg _,by show (((s[i.toNat]'hlt).toNat:Nat):Int) <= 255;omega⟩
theorem c8l {s:ByteArray} {a b:Int} (h0:0 <= a) (h1:a <= b) (h2:b <= (s.size:Int)):Tot (b6q s a b) fun r=>(r.size:Int)=b-a:=by
 unfold b6q
 rw [if_pos ⟨h0,h1,h2⟩]
 refine ⟨_,rfl,?_⟩
 show ((s.extract a.toNat b.toNat).size:Int)=b-a
 rw [ByteArray.size_extract]
 omega
theorem j6 {a b:ByteArray} (h:a.size+b.size <= 9223372036854775807):Tot (a4l a b) fun r=>r.size=a.size+b.size:=by
 unfold a4l
 rw [if_pos h]
 exact ⟨_,rfl,ByteArray.size_append⟩
theorem b4n {α:Type} {l:List α} {i:Int} (h0:0 <= i) (h1:i<(l.length:Int)):Tot (i7 l i) fun x=>x∈l:=by
 unfold i7
 rw [if_pos h0]
 have hlt:i.toNat<l.length:=by omega
 rw [List.getElem?_eq_getElem hlt]
 exact ⟨_,rfl,List.getElem_mem hlt⟩
theorem b8e {α:Type} {k:Nat} {l x:List α} (h:(l.length+x.length)*k <= 140737488355328):Tot (a8q k l x) fun r=>r=l++x:=⟨_,a85 h,rfl⟩
theorem b4g {a b:Int} (h0:0 <= a) (hb:0<b):Tot (b46 a b) fun r=>r=a%b /\ 0 <= r /\ r<b /\ r <= a:=by
 rw [c28 (by omega),c5t h0]
 have h1:=Int.emod_nonneg a (show b≠0 by omega)
 have h2:=Int.emod_lt_of_pos a hb
 have h3:a%b <= a:=by
  have:=Int.emod_add_mul_ediv a b
  have h5:0 <= b*(a/b):=Int.mul_nonneg (by omega) (Int.ediv_nonneg h0 (by omega))
  omega
 exact ⟨_,rfl,rfl,h1,h2,h3⟩
theorem c0c {a b:Int} (h0:0 <= a) (h1:a <= 9223372036854775807) (hb:0<b):Tot (b7a a b) fun r=>r=a/b /\ 0 <= r /\ r <= a:=by
 rw [d5k (by omega),d3z h0]
 have g1:=Int.ediv_nonneg h0 (show 0 <= b by omega)
 have g2:a/b <= a:=Int.ediv_le_self b h0
 rw [j8 (by omega) (by omega)]
 exact ⟨_,rfl,rfl,g1,g2⟩
theorem b5a {x:Int} (h0:0 <= x) (h1:x <= 4611686018427387904):i64 (x+1)=x+1:=j8 (by omega) (by omega)
theorem a0z {a n:Int} (hn:0<n) (h1:n <= 9223372036854775807):Tot (b6 a n) fun r=>0 <= r /\ r<n:=by
 unfold b6
 rw [c28 (by omega),Option.bind_some]
 have h2:=Int.tmod_lt_of_pos a hn
 have h3: -n<a.tmod n:=Int.lt_tmod_of_pos a hn
 refine Tot.ite (fun h=> ?_) fun h=> ?_
 ·simp at h
  rw [j8 (by omega) (by omega)]
  exact Tot.some (by omega)
 ·simp at h
  exact Tot.some (by omega)
theorem a1d (l:List Int) (i:Int) (hl:l.length <= 9223372036854775807):Tot (c8 l i) fun _=>True:=by
 unfold c8
 refine Tot.ite (fun h=>Tot.some trivial) fun h=> ?_
 have hp:0<l.length:=by
  rcases Nat.eq_zero_or_pos l.length with h0 | h0
  ·rw [h0] at h;exact absurd rfl h
  ·exact h0
 refine Tot.bind (a0z (by omega) (by omega)) fun v hv=> ?_
 exact Tot.bind (b4n (by omega) (by omega)) fun x _=>Tot.some trivial
theorem a7m {n:Int} (h0:0 <= n) (h1:n <= 9999999):Tot (k6 n) fun r=>1 <= r.size /\ r.size <= 8:=by
 unfold k6
 have hs:a4e.size=10:=by decide
 refine Tot.loop (I:=fun v:Int×ByteArray=>0 <= v.1 /\ ((v.1 <= 9 /\ v.2.size <= 6) \/ (v.1 <= 99 /\ v.2.size <= 5) \/ (v.1 <= 999 /\ v.2.size <= 4) \/ (v.1 <= 9999 /\ v.2.size <= 3) \/ (v.1 <= 99999 /\ v.2.size <= 2) \/ (v.1 <= 999999 /\ v.2.size <= 1) \/ (v.1 <= 9999999 /\ v.2.size <= 0))) (μ:=fun v=>v.1.toNat) (s:=(n,a1v)) ⟨h0,.inr (.inr (.inr (.inr (.inr (.inr ⟨h1,(by decide:a1v.size <= 0)⟩)))))⟩ (by show n.toNat<_;omega) ?_
 intro r v hI ih
 obtain ⟨g1,g2⟩:=hI
 unfold a0y
 refine Tot.ite (fun h=> ?_) fun h=> ?_
 ·simp at h
  refine Tot.bind (b4g g1 (by omega)) fun a ha=> ?_
  refine Tot.bind (b4g g1 (by omega)) fun b hb=> ?_
  have hab:a=b:=by omega
  subst hab
  rw [b5a (by omega) (by omega)]
  refine Tot.bind (c8l (by omega) (by omega) (by rw [hs];omega)) fun c hc=> ?_
  refine Tot.bind (j6 (by omega)) fun d hd=> ?_
  refine Tot.bind (c0c g1 (by omega) (by omega)) fun e he=> ?_
  refine ih (e,d) ⟨he.2.1,?_⟩ (by show e.toNat<v.1.toNat;omega)
  show (e <= 9 /\ d.size <= 6) \/ (e <= 99 /\ d.size <= 5) \/ (e <= 999 /\ d.size <= 4) \/ (e <= 9999 /\ d.size <= 3) \/ (e <= 99999 /\ d.size <= 2) \/ (e <= 999999 /\ d.size <= 1) \/ (e <= 9999999 /\ d.size <= 0)
  omega
 ·simp at h
  rw [b5a (by omega) (by omega)]
  refine Tot.bind (c8l (by omega) (by omega) (by rw [hs];omega)) fun c hc=> ?_
  exact Tot.bind (j6 (by omega)) fun d hd=>Tot.some (by omega)
theorem d4v {n:Int} (h0:0 <= n) (h1:n <= 999999):Tot (u9 n) fun r=>r.size <= 25:=by
 unfold u9
 have hs:a9m.size=1:=by decide
 refine Tot.bind (c0c h0 (by omega) (by omega)) fun a ha=> ?_
 refine Tot.bind (a7m (by omega) (by omega)) fun b hb=> ?_
 refine Tot.bind (j6 (by omega)) fun c hc=> ?_
 refine Tot.bind (c0c h0 (by omega) (by omega)) fun d hd=> ?_
 refine Tot.bind (b4g (by omega) (by omega)) fun e he=> ?_
 refine Tot.bind (a7m (by omega) (by omega)) fun g hg=> ?_
 refine Tot.bind (j6 (by omega)) fun i hi=> ?_
 refine Tot.bind (b4g h0 (by omega)) fun j hj=> ?_
 refine Tot.bind (a7m (by omega) (by omega)) fun k hk=> ?_
 exact Tot.bind (j6 (by omega)) fun l hl=>Tot.some (by omega)
theorem b8i {x:Int} (h0:0 <= x) (h1:x <= 9999999):Tot (k6 (i64 x)) fun r=>1 <= r.size /\ r.size <= 8:=by
 rw [j8 (by omega) (by omega)];exact a7m h0 h1
theorem b7g {x:Int} (h0:0 <= x) (h1:x <= 999999):Tot (u9 (i64 x)) fun r=>r.size <= 25:=by
 rw [j8 (by omega) (by omega)];exact d4v h0 h1
theorem e6h {a b:Int} (hb:b≠0):Tot (b7a a b) fun _=>True:=⟨_,d5k hb,trivial⟩
theorem e7j {a b:Int} (hb:b≠0):Tot (b46 a b) fun _=>True:=⟨_,c28 hb,trivial⟩
end Go.PL
namespace Go.PL
open Go Go.SX
def d87 (b:Int):Bool:=decide (b >= 97)&&decide (b <= 122)
def c9a (b:Int):Bool:=decide (b >= 48)&&decide (b <= 57)
theorem d0k (b:Int):a3n b=some (d87 b):=by
 unfold a3n d87
 rw [a5n,Option.bind_some]
theorem d07 (b:Int):a31 b=some (c9a b):=by
 unfold a31 c9a
 rw [a5n,Option.bind_some]
end Go.PL
namespace Go.PL
open Go Go.SX
theorem c3w (a:Int): ∃v,a2l a=some v /\ 0 <= v /\ v <= 18446744073709551615 /\ (0 <= a -> a <= 18446744073709551615 -> v=a):=by
 unfold a2l
 split
 ·rename_i h
  simp at h
  exact ⟨_,rfl,(c1f _).1,(c1f _).2,fun h0=>by omega⟩
 ·exact ⟨_,rfl,(c1f _).1,(c1f _).2,fun h0 h1=>e3g h0 h1⟩
theorem e6a {a b:Int} (ha:0 <= a) (hb:0 <= b) (h:0<a+b) (hma:a <= 18446744073709551615) (hm:b <= 18446744073709551615):Tot (a26 a b) fun g=>0<g /\ g <= 18446744073709551615:=by
 unfold a26
 refine Tot.loop (I:=fun v:Int×Int=>0 <= v.1 /\ 0 <= v.2 /\ 0<v.1+v.2 /\ v.1 <= 18446744073709551615 /\ v.2 <= 18446744073709551615) (μ:=fun v=>v.2.toNat) ⟨ha,hb,h,hma,hm⟩ (by show b.toNat<_;omega) ?_
 intro r v hI ih
 obtain ⟨g1,g2,g3,g4,g5⟩:=hI
 unfold a9x
 refine Tot.ite (fun hc=> ?_) fun hc=>Tot.some ⟨by simp at hc;omega,g4⟩
 have hv:0<v.2:=by
  have:v.2≠0:=by simpa using hc
  omega
 refine Tot.bind (b4g g1 hv) fun c hcc=>ih (v.2,c) ⟨g2,hcc.2.1,by show 0<v.2+c;omega,g5,by show c <= _;omega⟩ (by show c.toNat<v.2.toNat;omega)
end Go.PL
namespace Go.PL
open Go Go.SX
theorem c0w (f:Fraction):Tot (a03 f) fun b=>b=true -> 1 <= f.Den /\ f.Den <= 1000000000 /\ -1000000000000000 <= f.Num /\ f.Num <= 1000000000000000:=by
 unfold a03
 simp only [a5n,Option.bind_some]
 refine Tot.bind (Q:=fun b=>b=true -> 1 <= f.Den /\ f.Den <= 1000000000 /\ -1000000000000000 <= f.Num /\ f.Num <= 1000000000000000) (Tot.ite (fun h=> ?_) fun _=>Tot.some fun h=>by cases h) fun b hb=>Tot.some hb
 simp at h
 obtain ⟨x,hx,x0,x1,_⟩:=c3w f.Num
 rw [hx,Option.bind_some,e3g (by omega) (by omega)]
 exact Tot.bind (e6a x0 (by omega) (by omega) x1 (by omega)) fun _ _=>Tot.some fun _=>⟨by omega,by omega,by omega,by omega⟩
theorem d48 {n:Int} (h0:0 <= n) (h1:n <= 1000000000000000):Tot (a57 n 1) fun r=>(r.size:Int) <= n+1:=by
 unfold a57
 have hs:a4e.size=10:=by decide
 refine Tot.loop (I:=fun v:Int×ByteArray=>0 <= v.1 /\ v.1 <= n /\ v.1+(v.2.size:Int) <= n+1) (μ:=fun v=>2*v.1.toNat+(1-v.2.size)) (s:=(n,a1v)) ⟨h0,Int.le_refl _,by show n+(a1v.size:Int) <= n+1;rw [show a1v.size=0 from rfl];omega⟩ (by show 2*n.toNat+(1-a1v.size)<_;omega) ?_
 intro r v hI ih
 obtain ⟨g1,g2,g3⟩:=hI
 unfold b1j
 rw [b1m,Option.bind_some]
 refine Tot.ite (fun h=> ?_) fun _=>Tot.some (by omega)
 simp at h
 refine Tot.bind (b4g g1 (by omega)) fun a ha=>Tot.bind (b4g g1 (by omega)) fun b hb=> ?_
 have hab:a=b:=by omega
 subst hab
 rw [b5a (by omega) (by omega)]
 refine Tot.bind (c8l (by omega) (by omega) (by rw [hs];omega)) fun c hc=>Tot.bind (j6 (by omega)) fun d hd=>Tot.bind (c0c g1 (by omega) (by omega)) fun e he=> ?_
 refine ih (e,d) ⟨he.2.1,by show e <= n;omega,by show e+(d.size:Int) <= n+1;omega⟩ (by show 2*e.toNat+(1-d.size)<2*v.1.toNat+(1-v.2.size);omega)
theorem c01 {n:Int} (h0:0 <= n) (h1:n <= 999999999):Tot (a2q ⟨n,1⟩) fun r=>r.size <= 1000000000:=by
 unfold a2q
 refine Tot.bind (c0w _) fun b _=>Tot.ite (fun _=>Tot.some (by decide)) fun _=> ?_
 obtain ⟨x,hx,x0,x1,x2⟩:=c3w n
 have:=x2 h0 (by omega)
 subst this
 dsimp only
 rw [hx,Option.bind_some,j8 (by omega) (by omega)]
 refine Tot.bind (d48 h0 (by omega)) fun d hd=> ?_
 rw [if_neg (by simp;omega)]
 refine Tot.join ?_
 unfold a3s
 rw [if_neg (by simp)]
 exact Tot.some (by show d.size <= _;omega)
end Go.PL
namespace Go.PL
open Go Go.SX
theorem a80 (l:List Int) (k:Int) (s:ByteArray) (hl:l.length <= 9223372036854775807) (hs:s.size <= 2400):Tot (a1g (l,k,s)) fun r=>r.size <= 2500:=by
 unfold a1g
 try dsimp only
 have hstr__7d_:b14.size=2:=by decide
 have hstrh_a41f67:b6f.size=51:=by decide
 refine Tot.bind (a1d _ _ hl) fun v105 hv105=> ?_
 refine Tot.bind (a0z (by omega) (by omega)) fun v106 hv106=> ?_
 refine Tot.ite (fun hc=> ?_) fun hc=> ?_
 ·skip
  refine Tot.bind (j6 (by omega)) fun v107 hv107=> ?_
  refine Tot.bind (j6 (by omega)) fun v108 hv108=> ?_
  exact Tot.some (by first | exact trivial | omega)
 ·skip
  refine Tot.bind (j6 (by omega)) fun v109 hv109=> ?_
  exact Tot.some (by first | exact trivial | omega)
theorem a81 (l:List Int) (k:Int) (s:ByteArray) (hl:l.length <= 9223372036854775807) (hs:s.size <= 1900):Tot (a1i (l,k,s)) fun r=>r.size <= 2500:=by
 unfold a1i
 try dsimp only
 have hstr__3b_:a45.size=2:=by decide
 have hstr_d_pay_:c2f.size=6:=by decide
 have hstr_reduce_old_by_:a9v.size=14:=by decide
 have hstrh_635cfa:b93.size=14:=by decide
 have hstrh_a54acb:b9r.size=27:=by decide
 have hstrh_af57c7:b9l.size=27:=by decide
 have hstrh_bfa283:c05.size=29:=by decide
 refine Tot.bind (a1d _ _ hl) fun v79 hv79=> ?_
 refine Tot.bind (a0z (by omega) (by omega)) fun v80 hv80=> ?_
 refine Tot.bind (a7m (by omega) (by omega)) fun v81 hv81=> ?_
 refine Tot.bind (j6 (by omega)) fun v82 hv82=> ?_
 refine Tot.bind (j6 (by omega)) fun v83 hv83=> ?_
 refine Tot.bind (a1d _ _ hl) fun v84 hv84=> ?_
 refine Tot.bind (a0z (by omega) (by omega)) fun v85 hv85=> ?_
 refine Tot.bind (b8i (by omega) (by omega)) fun v86 hv86=> ?_
 refine Tot.bind (j6 (by omega)) fun v87 hv87=> ?_
 refine Tot.bind (j6 (by omega)) fun v88 hv88=> ?_
 refine Tot.bind (j6 (by omega)) fun v89 hv89=> ?_
 refine Tot.bind (a1d _ _ hl) fun v90 hv90=> ?_
 refine Tot.bind (a0z (by omega) (by omega)) fun v91 hv91=> ?_
 refine Tot.bind (a7m (by omega) (by omega)) fun v92 hv92=> ?_
 refine Tot.bind (j6 (by omega)) fun v93 hv93=> ?_
 refine Tot.bind (j6 (by omega)) fun v94 hv94=> ?_
 refine Tot.bind (j6 (by omega)) fun v95 hv95=> ?_
 refine Tot.bind (a1d _ _ hl) fun v96 hv96=> ?_
 refine Tot.bind (a0z (by omega) (by omega)) fun v97 hv97=> ?_
 refine Tot.ite (fun hc=> ?_) fun hc=> ?_
 ·skip
  refine Tot.bind (a1d _ _ hl) fun v98 hv98=> ?_
  refine Tot.bind (a0z (by omega) (by omega)) fun v99 hv99=> ?_
  refine Tot.bind (b7g (by omega) (by omega)) fun v100 hv100=> ?_
  refine Tot.bind (j6 (by omega)) fun v101 hv101=> ?_
  refine Tot.bind (j6 (by omega)) fun v102 hv102=> ?_
  refine Tot.bind (j6 (by omega)) fun v103 hv103=> ?_
  exact Tot.join (a80 _ _ _ hl (by omega))
 ·skip
  exact Tot.join (a80 _ _ _ hl (by omega))
theorem a82 (l:List Int) (k:Int) (t s:ByteArray) (hl:l.length <= 9223372036854775807) (ht:t.size <= 8) (hs:s.size <= 900):Tot (a1j (l,k,t,s)) fun r=>r.size <= 2500:=by
 unfold a1j
 try dsimp only
 have hstr__3b_:a45.size=2:=by decide
 have hstr_m_29_3b_:b7h.size=4:=by decide
 have hstrh_196854:b9w.size=22:=by decide
 have hstrh_34ba8d:b9y.size=9:=by decide
 have hstrh_4d1f9b:c08.size=13:=by decide
 have hstrh_58c487:c02.size=16:=by decide
 have hstrh_7bee7c:b9g.size=31:=by decide
 have hstrh_7ff122:c07.size=25:=by decide
 have hstrh_85bf07:b9d.size=13:=by decide
 have hstrh_98dd23:b94.size=20:=by decide
 have hstrh_b388fe:b96.size=66:=by decide
 have hstrh_d82640:c04.size=23:=by decide
 have hstrh_da8d59:b98.size=26:=by decide
 refine Tot.bind (a1d _ _ hl) fun v29 hv29=> ?_
 refine Tot.bind (a0z (by omega) (by omega)) fun v30 hv30=> ?_
 refine Tot.bind (b7g (by omega) (by omega)) fun v31 hv31=> ?_
 refine Tot.bind (j6 (by omega)) fun v32 hv32=> ?_
 refine Tot.bind (j6 (by omega)) fun v33 hv33=> ?_
 refine Tot.bind (a1d _ _ hl) fun v34 hv34=> ?_
 refine Tot.bind (a0z (by omega) (by omega)) fun v35 hv35=> ?_
 refine Tot.bind (b7g (by omega) (by omega)) fun v36 hv36=> ?_
 refine Tot.bind (j6 (by omega)) fun v37 hv37=> ?_
 refine Tot.bind (j6 (by omega)) fun v38 hv38=> ?_
 refine Tot.bind (j6 (by omega)) fun v39 hv39=> ?_
 refine Tot.bind (j6 (by omega)) fun v40 hv40=> ?_
 refine Tot.bind (j6 (by omega)) fun v41 hv41=> ?_
 refine Tot.bind (a1d _ _ hl) fun v42 hv42=> ?_
 refine Tot.bind (a0z (by omega) (by omega)) fun v43 hv43=> ?_
 refine Tot.bind (b7g (by omega) (by omega)) fun v44 hv44=> ?_
 refine Tot.bind (j6 (by omega)) fun v45 hv45=> ?_
 refine Tot.bind (j6 (by omega)) fun v46 hv46=> ?_
 refine Tot.bind (j6 (by omega)) fun v47 hv47=> ?_
 refine Tot.bind (a1d _ _ hl) fun v48 hv48=> ?_
 refine Tot.bind (a0z (by omega) (by omega)) fun v49 hv49=> ?_
 refine Tot.bind (b8i (by omega) (by omega)) fun v50 hv50=> ?_
 refine Tot.bind (j6 (by omega)) fun v51 hv51=> ?_
 refine Tot.bind (j6 (by omega)) fun v52 hv52=> ?_
 refine Tot.bind (a1d _ _ hl) fun v53 hv53=> ?_
 refine Tot.bind (a0z (by omega) (by omega)) fun v54 hv54=> ?_
 refine Tot.bind (a7m (by omega) (by omega)) fun v55 hv55=> ?_
 refine Tot.bind (j6 (by omega)) fun v56 hv56=> ?_
 refine Tot.bind (j6 (by omega)) fun v57 hv57=> ?_
 refine Tot.bind (a1d _ _ hl) fun v58 hv58=> ?_
 refine Tot.bind (a0z (by omega) (by omega)) fun v59 hv59=> ?_
 refine Tot.bind (a7m (by omega) (by omega)) fun v60 hv60=> ?_
 refine Tot.bind (j6 (by omega)) fun v61 hv61=> ?_
 refine Tot.bind (j6 (by omega)) fun v62 hv62=> ?_
 refine Tot.bind (j6 (by omega)) fun v63 hv63=> ?_
 refine Tot.bind (a1d _ _ hl) fun v64 hv64=> ?_
 refine Tot.bind (a0z (by omega) (by omega)) fun v65 hv65=> ?_
 refine Tot.bind (a7m (by omega) (by omega)) fun v66 hv66=> ?_
 refine Tot.bind (j6 (by omega)) fun v67 hv67=> ?_
 refine Tot.bind (j6 (by omega)) fun v68 hv68=> ?_
 refine Tot.bind (a1d _ _ hl) fun v69 hv69=> ?_
 refine Tot.bind (a0z (by omega) (by omega)) fun v70 hv70=> ?_
 refine Tot.bind (b7g (by omega) (by omega)) fun v71 hv71=> ?_
 refine Tot.bind (j6 (by omega)) fun v72 hv72=> ?_
 refine Tot.bind (j6 (by omega)) fun v73 hv73=> ?_
 refine Tot.bind (j6 (by omega)) fun v74 hv74=> ?_
 refine Tot.bind (a1d _ _ hl) fun v75 hv75=> ?_
 refine Tot.bind (a0z (by omega) (by omega)) fun v76 hv76=> ?_
 refine Tot.ite (fun hc=> ?_) fun hc=> ?_
 ·skip
  refine Tot.bind (j6 (by omega)) fun v77 hv77=> ?_
  exact Tot.join (a81 _ _ _ hl (by omega))
 ·skip
  exact Tot.join (a81 _ _ _ hl (by omega))
theorem a7z (l:List Int) (k:Int) (t s:ByteArray) (hl:l.length <= 9223372036854775807) (ht:t.size <= 8) (hs:s.size <= 800):Tot (a1h (l,k,t,s)) fun r=>r.size <= 2500:=by
 unfold a1h
 try dsimp only
 have hstrh_2afe9d:b9k.size=18:=by decide
 refine Tot.bind (a1d _ _ hl) fun v25 hv25=> ?_
 refine Tot.bind (a0z (by omega) (by omega)) fun v26 hv26=> ?_
 refine Tot.ite (fun hc=> ?_) fun hc=> ?_
 ·skip
  refine Tot.bind (j6 (by omega)) fun v27 hv27=> ?_
  exact Tot.join (a82 _ _ _ _ hl ht (by omega))
 ·skip
  exact Tot.join (a82 _ _ _ _ hl ht (by omega))
theorem a2p (l:List Int) (k:Int) (t s:ByteArray) (hl:l.length <= 9223372036854775807) (ht:t.size <= 8) (hs:s.size <= 400):Tot (a09 (l,k,t,s)) fun r=>r.size <= 2500:=by
 unfold a09
 try dsimp only
 have hstr__3b_:a45.size=2:=by decide
 have hstrh_405077:b9j.size=19:=by decide
 have hstrh_f7dc2d:b9c.size=42:=by decide
 refine Tot.bind (a1d _ _ hl) fun v10 hv10=> ?_
 refine Tot.bind (a0z (by omega) (by omega)) fun v11 hv11=> ?_
 refine Tot.bind (b8i (by omega) (by omega)) fun v12 hv12=> ?_
 refine Tot.bind (j6 (by omega)) fun v13 hv13=> ?_
 refine Tot.bind (j6 (by omega)) fun v14 hv14=> ?_
 refine Tot.bind (j6 (by omega)) fun v15 hv15=> ?_
 refine Tot.bind (a1d _ _ hl) fun v16 hv16=> ?_
 refine Tot.bind (a0z (by omega) (by omega)) fun v17 hv17=> ?_
 refine Tot.ite (fun hc=> ?_) fun hc=> ?_
 ·skip
  refine Tot.bind (a1d _ _ hl) fun v18 hv18=> ?_
  refine Tot.bind (a0z (by omega) (by omega)) fun v19 hv19=> ?_
  refine Tot.bind (b8i (by omega) (by omega)) fun v20 hv20=> ?_
  refine Tot.bind (j6 (by omega)) fun v21 hv21=> ?_
  refine Tot.bind (j6 (by omega)) fun v22 hv22=> ?_
  refine Tot.bind (j6 (by omega)) fun v23 hv23=> ?_
  exact Tot.join (a7z _ _ _ _ hl ht (by omega))
 ·skip
  exact Tot.join (a7z _ _ _ _ hl ht (by omega))
theorem a1e (a:ByteArray) (l:List Int) (k:Int) (hl:l.length <= 9223372036854775807) (ha:a.size <= 20):Tot (a16 a l k) fun r=>r.size <= 2500:=by
 unfold a16
 try dsimp only
 have hstr___7b_round_:a9k.size=9:=by decide
 have hstr_down_1_3b_:b57.size=8:=by decide
 have hstr_even_10_3b_:b3c.size=9:=by decide
 have hstr_from__40:b44.size=6:=by decide
 have hstr_half_5_3b_:b4t.size=8:=by decide
 have hstr_up_1_3b_:b87.size=6:=by decide
 refine Tot.bind (a1d _ _ hl) fun v1 hv1=> ?_
 refine Tot.bind (a0z (by omega) (by omega)) fun v2 hv2=> ?_
 refine Tot.bind (b8i (by omega) (by omega)) fun v3 hv3=> ?_
 refine Tot.bind (j6 (by omega)) fun v4 hv4=> ?_
 refine Tot.bind (j6 (by omega)) fun v5 hv5=> ?_
 refine Tot.bind (a1d _ _ hl) fun v6 hv6=> ?_
 refine Tot.bind (a0z (by omega) (by omega)) fun v7 hv7=> ?_
 refine Tot.ite (fun hc=> ?_) fun hc=> ?_
 ·skip
  refine Tot.bind (j6 (by omega)) fun v8 hv8=> ?_
  exact Tot.join (a2p _ _ _ _ hl (by omega) (by omega))
 ·skip
  refine Tot.ite (fun hc=> ?_) fun hc=> ?_
  ·skip
   refine Tot.bind (j6 (by omega)) fun v110 hv110=> ?_
   exact Tot.join (a2p _ _ _ _ hl (by omega) (by omega))
  ·skip
   refine Tot.ite (fun hc=> ?_) fun hc=> ?_
   ·skip
    refine Tot.bind (j6 (by omega)) fun v111 hv111=> ?_
    exact Tot.join (a2p _ _ _ _ hl (by omega) (by omega))
   ·skip
    refine Tot.bind (j6 (by omega)) fun v112 hv112=> ?_
    exact Tot.join (a2p _ _ _ _ hl (by omega) (by omega))
theorem a97 (k:Int) (l:List Int) (s:ByteArray) (hl:l.length <= 9223372036854775807) (hs:s.size <= 6000):Tot (a33 (k,l,s)) fun r=>True:=by
 unfold a33
 try dsimp only
 have hstr_2001_2d01_2d01:a6v.size=10:=by decide
 have hstr__7d:a34.size=1:=by decide
 refine Tot.bind (a1d _ _ hl) fun v15 hv15=> ?_
 refine Tot.bind (a0z (by omega) (by omega)) fun v16 hv16=> ?_
 refine Tot.ite (fun hc=> ?_) fun hc=> ?_
 ·skip
  refine Tot.bind (a1e _ _ _ hl (by decide)) fun v17 hv17=> ?_
  refine Tot.bind (j6 (by omega)) fun v18 hv18=> ?_
  refine Tot.bind (j6 (by omega)) fun v19 hv19=> ?_
  exact Tot.some (by first | exact trivial | omega)
 ·skip
  refine Tot.bind (j6 (by omega)) fun v20 hv20=> ?_
  exact Tot.some (by first | exact trivial | omega)
theorem b8o {k:Int} (l:List Int) (hl:l.length <= 9223372036854775807) (h0:0 <= k) (h3:k<3):Tot (a18 k l) fun r=>True:=by
 unfold a18
 try dsimp only
 have hstr_1900_2d01_2d01:a70.size=10:=by decide
 have hstr_1996_2d07_2d01:a6w.size=10:=by decide
 have hstr___7b_:c0e.size=3:=by decide
 have hstr__currency_:b18.size=10:=by decide
 have hstr_alba:b61.size=4:=by decide
 have hstr_bora:b6h.size=4:=by decide
 have hstr_cedar:b32.size=5:=by decide
 have hstr_statute_:b4o.size=8:=by decide
 have hn: ∀x∈[b61,b6h,b32],x.size <= 10:=by decide
 refine Tot.bind (b4n (l:=[b61,b6h,b32]) h0 h3) fun v1 hv1=> ?_
 refine Tot.bind (b4n (l:=[b61,b6h,b32]) h0 h3) fun v2 hv2=> ?_
 have hv2:=hn v2 hv2
 refine Tot.bind (j6 (by omega)) fun v3 hv3=> ?_
 refine Tot.bind (j6 (by omega)) fun v4 hv4=> ?_
 refine Tot.bind (b8i (by omega) (by omega)) fun v5 hv5=> ?_
 refine Tot.bind (j6 (by omega)) fun v6 hv6=> ?_
 refine Tot.bind (j6 (by omega)) fun v7 hv7=> ?_
 refine Tot.bind (a1e _ _ _ hl (by decide)) fun v8 hv8=> ?_
 refine Tot.bind (j6 (by omega)) fun v9 hv9=> ?_
 refine Tot.bind (a1d _ _ hl) fun v10 hv10=> ?_
 refine Tot.bind (a0z (by omega) (by omega)) fun v11 hv11=> ?_
 refine Tot.ite (fun hc=> ?_) fun hc=> ?_
 ·skip
  refine Tot.bind (a1e _ _ _ hl (by decide)) fun v12 hv12=> ?_
  refine Tot.bind (j6 (by omega)) fun v13 hv13=> ?_
  exact Tot.join (a97 _ _ _ hl (by omega))
 ·skip
  exact Tot.join (a97 _ _ _ hl (by omega))
end Go.PL
namespace Go.PL
open Go Go.SX
theorem e52 {l:List Int} (hl:l.length <= 9223372036854775807):Tot (a7r l) fun r=>r.length=15:=by
 unfold a7r
 refine Tot.loop (I:=fun v:List api_Fact×Int=>1 <= v.2 /\ v.2 <= 3 /\ (v.1.length:Int)=6*(v.2-1)) (μ:=fun v=>(3-v.2).toNat) ⟨Int.le_refl _,by show (1:Int) <= 3;omega,rfl⟩ (by show (3-1:Int).toNat<_;omega) ?_
 intro r v hI ih
 obtain ⟨g1,g2,g3⟩:=hI
 unfold b2c
 refine Tot.ite (fun hc=> ?_) fun hc=> ?_
 ·simp at hc
  rw [b5a (by omega) (by omega)]
  repeat' first
   | (refine Tot.bind (a1d _ _ hl) fun _ _=> ?_)
   | (refine Tot.bind (a0z (by omega) (by omega)) fun _ _=> ?_)
   | (refine Tot.bind (b8e (by simp;omega)) fun _ h=> ?_;subst h)
  exact ih _ ⟨by show 1 <= v.2+1;omega,by show v.2+1 <= 3;omega,by simp;omega⟩ (by show (3-(v.2+1)).toNat<(3-v.2).toNat;omega)
 ·simp at hc
  repeat' first
   | (refine Tot.bind (a1d _ _ hl) fun _ _=> ?_)
   | (refine Tot.bind (a0z (by omega) (by omega)) fun _ _=> ?_)
   | (refine Tot.bind (b8e (by simp;omega)) fun _ h=> ?_;subst h)
  exact Tot.some (by simp;omega)
theorem d55 (a:Int):Tot (a6z a) fun _=>True:=by
 unfold a6z
 have h: ∀k:Int,0<k -> k <= 9000 -> Tot (Option.bind (b7a a 4) fun v=>Option.bind (b6 v k) fun w=>some (i64 (1+w))) fun _=>True:=fun k h0 h1=>Tot.bind (e6h (by decide)) fun _ _=>Tot.bind (a0z h0 (by omega)) fun _ _=>Tot.some trivial
 refine Tot.bind (a0z (by omega) (by omega)) fun m _=>Tot.ite (fun _=>h _ (by omega) (by omega)) fun _=>Tot.ite (fun _=>h _ (by omega) (by omega)) fun _=>Tot.ite (fun _=>h _ (by omega) (by omega)) fun _=>h _ (by omega) (by omega)
theorem d90 (k:Int):Tot (a5m k) fun s=>s.size <= 10:=by
 unfold a5m
 rw [b1m,Option.bind_some]
 refine Tot.ite (fun _=>Tot.some (by decide)) fun h=> ?_
 simp at h
 have hs: ∀x∈[a1v,a91,a5j,a5j,b89,a7a,b4l,a7a,a7a,a7a,b7z,b74,b74,b74,c3e],x.size <= 10:=by decide
 exact Tot.bind (b4n (by omega) (by simp;omega)) fun _ _=>Tot.bind (b4n (by omega) (by simp;omega)) fun x hx=>Tot.some (hs x hx)
theorem e7e (a:pensionhand_Fact):Tot (a8l a) fun _=>True:=by
 have j: ∀q,Tot (a32 q) fun _=>True:=by
  intro q
  unfold a32
  refine Tot.bind (d90 _) fun s hs=> ?_
  refine Tot.loop (σ:=pensionhand_Fact×api_Fact×api_Fact×Int) (I:=fun v=>0 <= v.2.2.2) (μ:=fun v=>((s.size:Int)-v.2.2.2).toNat) (Int.le_refl _) (by show ((s.size:Int)-0).toNat<_;omega) ?_
  intro r v g1 ih
  unfold b38
  refine Tot.ite (fun hc=> ?_) fun _=>Tot.some trivial
  simp at hc
  have nx: ∀(x:pensionhand_Fact) (y z:api_Fact),Tot (r (x,y,z,i64 (v.2.2.2+1))) fun _=>True:=fun x y z=>by
   rw [b5a g1 (by omega)]
   exact ih _ (by show 0 <= v.2.2.2+1;omega) (by show ((s.size:Int)-(v.2.2.2+1)).toNat<((s.size:Int)-v.2.2.2).toNat;omega)
  refine Tot.bind (e6r g1 hc) fun b _=> ?_
  simp only [a5n,Option.bind_some]
  repeat' first
   | exact nx _ _ _
   | (refine Tot.ite (fun _=> ?_) fun _=> ?_)
   | (refine Tot.bind (a0z (by omega) (by omega)) fun _ _=> ?_)
   | (refine Tot.bind (e7j (by decide)) fun _ _=> ?_)
 unfold a8l
 repeat' first
  | exact Tot.join (j _)
  | (refine Tot.ite (fun _=> ?_) fun _=> ?_)
  | (refine Tot.bind (a0z (by omega) (by omega)) fun _ _=> ?_)
  | (refine Tot.bind (d55 _) fun _ _=> ?_)
theorem e0y (l:List pensionhand_Fact):Tot (a7s l) fun r=>r.length <= 12:=by
 unfold a7s
 refine Tot.loop (I:=fun v:List api_Fact×Int=>0 <= v.2 /\ v.2 <= 12 /\ (v.1.length:Int)=v.2) (μ:=fun v=>(12-v.2).toNat) ⟨Int.le_refl _,by show (0:Int) <= 12;omega,rfl⟩ (by show (12-0:Int).toNat<_;omega) ?_
 intro r v hI ih
 obtain ⟨g1,g2,g3⟩:=hI
 unfold b2e
 rw [a5n,Option.bind_some]
 refine Tot.ite (fun hc=> ?_) fun _=>Tot.some (by omega)
 simp at hc
 refine Tot.bind (b4n g1 (by omega)) fun x _=>Tot.bind (e7e x) fun f _=>Tot.bind (b8e (by simp;omega)) fun a ha=> ?_
 subst ha
 rw [b5a g1 (by omega)]
 exact ih _ ⟨by show 0 <= v.2+1;omega,by show v.2+1 <= 12;omega,by simp;omega⟩ (by show (12-(v.2+1)).toNat<(12-v.2).toNat;omega)
theorem d1j (n:Int):Tot (a63 n) fun r=>1 <= r /\ r <= 4:=by
 unfold a63
 refine Tot.bind (a0z (by omega) (by omega)) fun m hm=>Tot.some ?_
 rw [j8 (by omega) (by omega)];omega
theorem d4h (n:Int):Tot (a6r n) fun r=>1155 <= r /\ r <= 1194:=by
 unfold a6r
 refine Tot.bind (a0z (by omega) (by omega)) fun m hm=>Tot.some ?_
 rw [j8 (by omega) (by omega)];omega
end Go.PL
namespace Go.PL
open Go Go.SX
def d09 (k:Int):Prop:= ∃(s:ByteArray) (bS bT bH bC bA bR:Bool),a9t k=some s /\ (s.toList==a1v.toList)=false /\ a0x f9b s=some bS /\ a0x f7u s=some bT /\ a0x f7s s=some bH /\ a0x g0n s=some bC /\ a0x g0d s=some bA /\ a0x f8f s=some bR
theorem f4o:d09 1:=⟨a91,true,true,true,true,true,false,by kernel_rfl,by kernel_rfl,by kernel_rfl,by kernel_rfl,by kernel_rfl,by kernel_rfl,by kernel_rfl,by kernel_rfl⟩
theorem f4p:d09 2:=⟨a5j,true,false,true,true,true,false,by kernel_rfl,by kernel_rfl,by kernel_rfl,by kernel_rfl,by kernel_rfl,by kernel_rfl,by kernel_rfl,by kernel_rfl⟩
theorem f3x:d09 4:=⟨b89,true,true,false,false,false,false,by kernel_rfl,by kernel_rfl,by kernel_rfl,by kernel_rfl,by kernel_rfl,by kernel_rfl,by kernel_rfl,by kernel_rfl⟩
theorem f2n:d09 5:=⟨a7a,true,false,false,false,false,false,by kernel_rfl,by kernel_rfl,by kernel_rfl,by kernel_rfl,by kernel_rfl,by kernel_rfl,by kernel_rfl,by kernel_rfl⟩
theorem f5p:d09 6:=⟨b4l,true,false,false,true,true,false,by kernel_rfl,by kernel_rfl,by kernel_rfl,by kernel_rfl,by kernel_rfl,by kernel_rfl,by kernel_rfl,by kernel_rfl⟩
theorem e5q:d09 10:=⟨b7z,true,false,false,false,false,true,by kernel_rfl,by kernel_rfl,by kernel_rfl,by kernel_rfl,by kernel_rfl,by kernel_rfl,by kernel_rfl,by kernel_rfl⟩
theorem e5r:d09 11:=⟨b74,false,false,false,false,false,false,by kernel_rfl,by kernel_rfl,by kernel_rfl,by kernel_rfl,by kernel_rfl,by kernel_rfl,by kernel_rfl,by kernel_rfl⟩
theorem e7w:d09 14:=⟨c3e,false,false,false,false,false,true,by kernel_rfl,by kernel_rfl,by kernel_rfl,by kernel_rfl,by kernel_rfl,by kernel_rfl,by kernel_rfl,by kernel_rfl⟩
theorem e6t {k:Int} (h0:1 <= k) (h1:k <= 14):d09 k:=by
 have:k=1 \/ k=2 \/ k=3 \/ k=4 \/ k=5 \/ k=6 \/ k=7 \/ k=8 \/ k=9 \/ k=10 \/ k=11 \/ k=12 \/ k=13 \/ k=14:=by omega
 rcases this with rfl | rfl | rfl | rfl | rfl | rfl | rfl | rfl | rfl | rfl | rfl | rfl | rfl | rfl
 all_goals first | exact f4o | exact f4p | exact usesp_3 | exact f3x | exact f2n | exact f5p | exact usesp_7 | exact usesp_8 | exact usesp_9 | exact e5q | exact e5r | exact usesp_12 | exact usesp_13 | exact e7w
theorem e1z {k:Int} (h:k<1 \/ 15 <= k):a9t k=some a1v:=by
 have e: ∀j:Int,1 <= j -> j <= 14 -> (k==j)=false:=by intro j _ _;simp;omega
 unfold a9t b7w b1e b45 joinC
 simp [e 1,e 2,e 3,e 4,e 5,e 6,e 7,e 8,e 9,e 10,e 11,e 12,e 13,e 14]
theorem c8b {s c:ByteArray} {x lo hi:Int} {b:Bool} (h:a0x c s=some b): ∃v,(Option.bind (a0x c s) fun z=>a7x z x lo hi)=some v:=by
 unfold a7x a79
 rw [h]
 simp only [a5n,b1m,Option.bind_some]
 exact ⟨_,rfl⟩
theorem d5f {α β γ:Type} (a:Option α) (f:α -> Option β) (g:β -> Option γ):(Option.bind a fun x=>Option.bind (f x) g)=Option.bind (Option.bind a f) g:=by cases a<;>rfl
set_option maxHeartbeats 4000000 in
theorem e3e (d:api_Fact): ∃b,a5o d=some b /\ (b=true -> (1 <= d.Kind /\ d.Kind <= 14) /\ (0 <= d.Issuer /\ d.Issuer <= 5) /\ (1 <= d.Number /\ d.Number <= 999) /\ 1 <= d.Version /\ d.Version <= 99 /\ 1 <= d.Person /\ d.Person <= 99):=by
 by_cases hk:1 <= d.Kind /\ d.Kind <= 14
 ·obtain ⟨s,bS,bT,bH,bC,bA,bR,h1,h3,hS,hT,hH,hC,hA,hR⟩:=e6t hk.1 hk.2
  obtain ⟨vS,fS⟩:=c8b (x:=d.State) (lo:=0) (hi:=5) hS
  obtain ⟨vT,fT⟩:=c8b (x:=d.Seat) (lo:=0) (hi:=5) hT
  obtain ⟨vH,fH⟩:=c8b (x:=d.Share) (lo:=1) (hi:=100) hH
  obtain ⟨vC,fC⟩:=c8b (x:=d.Currency) (lo:=1) (hi:=999) hC
  obtain ⟨vA,fA⟩:=c8b (x:=d.Amount) (lo:=0) (hi:=1000000000) hA
  obtain ⟨vR,fR⟩:=c8b (x:=d.Ref) (lo:=1) (hi:=99) hR
  unfold a5o
  simp only [d5f,fS,fT,fH,fC,fA,fR,h1,Option.bind_some,h3,Bool.false_eq_true,if_false]
  unfold a79 b4u b64 b6c joinC
  simp only [Option.bind_some,b1m,a5n]
  split
  ·exact ⟨false,rfl,fun h=>by cases h⟩
  ·rename_i hI
   have hr:(0 <= d.Issuer /\ d.Issuer <= 5) /\ (1 <= d.Number /\ d.Number <= 999) /\ 1 <= d.Version /\ d.Version <= 99 /\ 1 <= d.Person /\ d.Person <= 99:=by simp at hI;omega
   repeat' first
    | exact ⟨_,rfl,fun _=>⟨hk,hr⟩⟩
    | split
 ·have h1:=e1z (k:=d.Kind) (by omega)
  refine ⟨false,?_,fun h=>by cases h⟩
  unfold a5o
  simp [h1]
def vld (f:api_Fact):Bool:=(a5o f).getD false
def cur (f:api_Fact):Bool:=vld f&& !f.Withdrawn
theorem b5o (f:api_Fact):a5o f=some (vld f):=by
 obtain ⟨b,h,_⟩:=e3e f
 unfold vld;rw [h];rfl
theorem f4g {d:api_Fact} (h:vld d=true):(1 <= d.Kind /\ d.Kind <= 14) /\ (0 <= d.Issuer /\ d.Issuer <= 5) /\ (1 <= d.Number /\ d.Number <= 999) /\ 1 <= d.Version /\ d.Version <= 99 /\ 1 <= d.Person /\ d.Person <= 99:=by
 obtain ⟨b,e,h2⟩:=e3e d
 unfold vld at h
 rw [e] at h
 exact h2 h
theorem e7h {d:api_Fact} (h:vld d=true):1 <= d.Kind /\ d.Kind <= 14:=(f4g h).1
end Go.PL
namespace Go.PL
open Go
theorem b6i {α β:Type} (f:α -> Option β) (a:α):Go.SX.joinC f a=f a:=rfl
theorem c5w {i n:Nat} (h:i<n):(decide ((i:Int)<(n:Int)))=true:=by simp;omega
theorem b9s (n:Nat): ¬(decide ((n:Int)<(n:Int)))=true:=by simp
theorem c4z {α:Type} {f:(List α×Int -> Option (List α)) -> List α×Int -> Option (List α)} {k:Nat} (l:List α) (p:α -> Bool) (hl:l.length <= 2^30) (hk:k <= 1000)
  (hstep: ∀(rec:List α×Int -> Option (List α)) (s:List α) (i:Nat) (y:α),l[i]? =some y -> f rec (s,(i:Int))=if p y=true then Option.bind (a8q k s [y]) (fun a=>rec (a,i64 ((i:Int)+1))) else rec (s,i64 ((i:Int)+1)))
  (hfin: ∀(rec:List α×Int -> Option (List α)) (s:List α),f rec (s,(l.length:Int))=some s):d8 FU f ([],0)=some (l.filter p):=by
 refine a9s (f:=f) l (fun s i=>(s,i)) (fun s i=>s=(l.take i).filter p) (fun o=>o=some (l.filter p)) (by omega) ?_ ?_ [] (by simp)
 ·rintro rec s i y hi hy rfl
  right
  have hlen:((l.take i).filter p).length <= i:=by
   have:=List.length_filter_le p (l.take i);rw [List.length_take] at this;omega
  rw [hstep _ _ _ _ hy,b40 (by omega),b7e hy,List.filter_append]
  by_cases hc:p y=true
  ·rw [if_pos hc,a85 (by
    simp only [List.length_cons,List.length_nil]
    calc (((l.take i).filter p).length+1)*k <= (2^30+1)*1000:=Nat.mul_le_mul (by omega) hk
     _ <= _:=by omega),Option.bind_some]
   exact ⟨_,rfl,by simp [hc]⟩
  ·rw [if_neg hc]
   rw [Bool.not_eq_true] at hc
   exact ⟨_,rfl,by simp [hc]⟩
 ·rintro rec s rfl
  rw [hfin,List.take_length]
theorem c7e {α:Type} {f:(Int -> Option Int) -> Int -> Option Int} (l:List α) (p:α -> Bool) (hl:l.length <= 2^30)
  (hstep: ∀(rec:Int -> Option Int) (i:Nat) (y:α),l[i]? =some y -> f rec (i:Int)=if p y=true then some (i:Int) else rec (i64 ((i:Int)+1)))
  (hfin: ∀rec:Int -> Option Int,f rec (l.length:Int)=some (-1)): ∃n,d8 FU f 0=some n /\ decide (n >= 0)=l.any p:=by
 refine a9s (f:=f) l (fun (_:Unit) i=>i) (fun _ i=> ∀y∈l.take i,p y=false) (fun o=> ∃n,o=some n /\ decide (n >= 0)=l.any p) (by omega) ?_ ?_ () (by simp)
 ·rintro rec s i y hi hy h
  rw [hstep _ _ _ hy,b40 (by omega)]
  by_cases hc:p y=true
  ·left
   rw [if_pos hc]
   exact ⟨_,rfl,by rw [List.any_eq_true.2 ⟨y,List.mem_of_getElem? hy,hc⟩];simp⟩
  ·right
   rw [if_neg hc]
   refine ⟨(),rfl,fun z hz=> ?_⟩
   rw [b7e hy] at hz
   rcases List.mem_append.1 hz with hz | hz
   ·exact h z hz
   ·rw [List.mem_singleton] at hz;subst hz;simpa using hc
 ·intro rec s h
  rw [List.take_length] at h
  rw [hfin]
  refine ⟨-1,rfl,?_⟩
  have:l.any p=false:=by rw [List.any_eq_false];intro y hy;simp [h y hy]
  rw [this];decide
theorem e0z {α σ ρ τ:Type} {f:(σ -> Option ρ) -> σ -> Option ρ} (l:List α) (e:τ -> Int -> σ) (g:τ -> α -> τ) (out:τ -> Option ρ) (hl:l.length <= 2^30) (s0:τ) (J:τ -> Nat -> Prop) (h0:J s0 0)
  (hstep: ∀(rec:σ -> Option ρ) (s:τ) (i:Nat) (y:α),l[i]? =some y -> J s i -> J (g s y) (i+1) /\ f rec (e s (i:Int))=rec (e (g s y) (i64 ((i:Int)+1))))
  (hfin: ∀(rec:σ -> Option ρ) (s:τ),J s l.length -> f rec (e s (l.length:Int))=out s):d8 FU f (e s0 0)=out (l.foldl g s0):=by
 refine a9s (f:=f) l e (fun s i=>s=(l.take i).foldl g s0 /\ J s i) (fun o=>o=out (l.foldl g s0)) (by omega) ?_ ?_ s0 ⟨by simp,h0⟩
 ·rintro rec s i y hi hy ⟨rfl,hJ⟩
  right
  obtain ⟨h1,h2⟩:=hstep rec _ i y hy hJ
  rw [h2,b40 (by omega)]
  exact ⟨_,rfl,(d94 hy).symm,h1⟩
 ·rintro rec s ⟨rfl,hJ⟩
  rw [hfin _ _ hJ,List.take_length]
end Go.PL
namespace Go.PL
open Go Go.SX
theorem c78 (f:api_Fact):a8c f=some (cur f):=by
 unfold a8c cur
 rw [b5o,Option.bind_some,a5n,Option.bind_some]
theorem d41 (l:List api_Fact) (hl:l.length <= 2^30):b1b l=some (l.filter cur):=by
 unfold b1b a3f
 rw [c4z (k:=112) l cur hl (by omega) (fun rec s i y hy=> ?_) fun rec s=> ?_,Option.bind_some]
 ·have hi:=(List.getElem?_eq_some_iff.1 hy).1
  unfold a28
  dsimp only
  rw [if_pos (c5w hi)]
  simp only [b50 hy,Option.bind_some,c78]
 ·unfold a28
  dsimp only
  rw [if_neg (b9s _)]
def ofP (l:List api_Fact) (p:Int):List api_Fact:=l.filter fun f=>f.Person==p
theorem d03 (l:List api_Fact) (p:Int):(ofP l p).length <= l.length:=List.length_filter_le _ _
theorem d7n (l:List api_Fact) (p:Int) (hl:l.length <= 2^30):b1u l p=some (ofP l p):=by
 unfold b1u a4q ofP
 rw [c4z (k:=112) l (fun f=>f.Person==p) hl (by omega) (fun rec s i y hy=> ?_) fun rec s=> ?_,Option.bind_some]
 ·have hi:=(List.getElem?_eq_some_iff.1 hy).1
  unfold a3g c03
  dsimp only
  rw [if_pos (c5w hi)]
  simp only [b50 hy,Option.bind_some]
 ·unfold a3g
  dsimp only
  rw [if_neg (b9s _)]
def e8t (kind:Int) (s:Int×Bool) (y:api_Fact):Int×Bool:=if (y.Kind==kind)&&(!s.2||decide (y.Span.From<s.1)) then (y.Span.From,true) else s
theorem e6e (l:List api_Fact) (kind:Int) (hl:l.length <= 2^30):b3y l kind=some ((l.filter cur).foldl (e8t kind) (0,false)):=by
 rw [List.foldl_filter]
 unfold b3y
 refine e0z (f:=a9p l kind) l (fun (s:Int×Bool) i=>(s.1,s.2,i)) (fun x y=>if cur y=true then e8t kind x y else x) (fun s=>some s) hl (0,false) (fun _ _=>True) trivial (fun rec s i y hy _=>⟨trivial,?_⟩) fun rec s _=> ?_
 ·have hi:=(List.getElem?_eq_some_iff.1 hy).1
  unfold a9p
  dsimp only
  rw [if_pos (c5w hi)]
  simp only [b50 hy,Option.bind_some,c78,b1m,a5n]
  unfold e8t
  cases cur y
  ·simp
  ·simp only [Bool.true_and,if_true]
   by_cases hc:(y.Kind==kind&&(!s.2||decide (y.Span.From<s.1)))=true
   ·rw [if_pos hc,if_pos hc]
   ·rw [if_neg hc,if_neg hc]
 ·unfold a9p
  dsimp only
  rw [if_neg (b9s _)]
def b9z (l:List api_Fact):Int×Bool:=(l.filter cur).foldl (e8t 12) (0,false)
theorem c65 (l:List api_Fact) (hl:l.length <= 2^30):a8x l=some (b9z l):=by
 unfold a8x;rw [e6e l 12 hl];rfl
def b6s (l:List api_Fact) (d:Int):Bool:= !(b9z l).2||decide ((b9z l).1 >= d)
end Go.PL
namespace Go.PL
open Go Go.SX
def b5p (n:Int):Nat -> List Int
 | 0=>[]
 | k+1=>IntKind.u8.wrap (g0j .i64 n (8*k))::b5p n k
theorem b47 (n:Int): ∀k,(b5p n k).length=k
 | 0=>rfl
 | k+1=>by simp [b5p,b47 n k]
theorem e4x (b:List Int) (k:Nat) (xs:List Int) (hk:k <= 8) (hx:xs.length <= 1000) (hb:b.length <= 100000):l9 b (k:Int) xs=some (b++xs.flatMap fun n=>b5p n k):=by
 unfold l9
 have hfl: ∀ys:List Int,(ys.flatMap fun n=>b5p n k).length=ys.length*k:=by
  intro ys
  induction ys with
  | nil=>simp
  | cons y ys ih=>rw [List.flatMap_cons,List.length_append,ih,b47,List.length_cons,Nat.succ_mul];omega
 refine a9s (f:=a59 xs (k:Int)) xs (fun s i=>(s,i)) (fun s i=>s=b++(xs.take i).flatMap fun n=>b5p n k) (fun o=>o=some (b++xs.flatMap fun n=>b5p n k)) (by omega) ?_ ?_ b (by simp)
 ·rintro rec s i y hi hy rfl
  right
  refine ⟨_,?_,rfl⟩
  unfold a59
  dsimp only
  rw [if_pos (by simp;omega),b50 hy,Option.bind_some]
  have hlen:(b++(xs.take i).flatMap fun n=>b5p n k).length <= 108000:=by
   rw [List.length_append,hfl,List.length_take]
   have:min i xs.length*k <= 1000*8:=Nat.mul_le_mul (by omega) hk
   omega
  have htk:(xs.take (i+1)).flatMap (fun n=>b5p n k)=((xs.take i).flatMap fun n=>b5p n k)++b5p y k:=by rw [b7e hy,List.flatMap_append];simp
  rw [htk,<- List.append_assoc]
  generalize (b++(xs.take i).flatMap fun n=>b5p n k)=c at hlen⊢
  refine c0l (f:=a7c y rec (c,(i:Int))) (fun st=> ∃(q:List Int) (j:Nat),st=(q,(j:Int)-1) /\ j <= k /\ q++b5p y j=c++b5p y k) (fun st=>(st.2+1).toNat) (fun o=>o=rec (c++b5p y k,((i+1:Nat):Int)))
   (s:=(c,i64 ((k:Int)-1))) ⟨c,k,by rw [j8 (by omega) (by omega)],Nat.le_refl _,rfl⟩ (by rw [j8 (by omega) (by omega)];dsimp only;omega) ?_
  rintro st rec2 ⟨q,j,rfl,hj,hq⟩
  unfold a7c
  dsimp only
  cases j with
  | zero=>
    left
    rw [if_neg (by simp),b40 (by omega)]
    congr 2
    simpa [b5p] using hq
  | succ j=>
    right
    have e1:((j+1:Nat):Int)-1=(j:Int):=by omega
    have hql:q.length <= 108008:=by
     have:=congrArg List.length hq
     rw [List.length_append,List.length_append,b47,b47] at this;omega
    rw [e1,if_pos (by simp),j8 (n:=8*(j:Int)) (by omega) (by omega)]
    unfold e09
    rw [if_neg (by omega),Option.bind_some,a85 (by simp;omega),Option.bind_some,j8 (n:=(j:Int)-1) (by omega) (by omega)]
    refine ⟨_,rfl,⟨_,j,rfl,by omega,?_⟩,by dsimp only;omega⟩
    rw [<- hq,List.append_assoc];rfl
 ·rintro rec s rfl
  unfold a59
  dsimp only
  rw [if_neg (by simp),List.take_length]
def e05 (d:api_Fact) (c:Int):List Int:=
 if c=83 then b5p d.State 1 else if c=80 then b5p d.Span.From 3++b5p d.Span.To 3 else if c=84 then b5p d.Seat 1 else if c=72 then b5p d.Share 1 else if c=67 then b5p d.Currency 2 else if c=65 then b5p d.Amount 4 else if c=82 then b5p d.Ref 1 else []
theorem e82 (d:api_Fact) (c:Int):(e05 d c).length <= 6:=by
 unfold e05
 repeat' split
 all_goals simp [b47]
def c6s (s:ByteArray):Prop:=s.size <= 10 /\ ∀i:Nat,i<s.size -> b03 s (i:Int)=some ((s.get! i).toNat:Int) /\ (s.get! i).toNat<128
def d5l (s:ByteArray) (i:Nat):List Int:=(List.range i).map fun j=>((s.get! j).toNat:Int)
theorem e0d (s:ByteArray) (i:Nat):d5l s (i+1)=d5l s i++[((s.get! i).toNat:Int)]:=by unfold d5l;rw [List.range_succ,List.map_append];rfl
theorem c0m (d:api_Fact): ∀l:List Int,(l.flatMap (e05 d)).length <= 6*l.length
 | []=>by simp
 | c::l=>by
   have:=c0m d l
   have h:=e82 d c
   rw [List.flatMap_cons,List.length_append,List.length_cons];omega
theorem f8c (b:List Int) (k:Nat) (x:Int) (hk:k <= 8) (hb:b.length <= 100000):l9 b (k:Int) [x]=some (b++b5p x k):=by
 rw [e4x b k [x] hk (by simp) hb];simp
set_option maxHeartbeats 1000000 in
theorem e4i (d:api_Fact) (s:ByteArray) (hs:c6s s) (b:List Int) (hb:b.length <= 1000):d8 FU b2u (d,b,(s,0))=some (b++(d5l s s.size).flatMap (e05 d)):=by
 have:=b2v (f:=b2u) (fun st=> ∃i:Nat,st=(d,b++(d5l s i).flatMap (e05 d),(s,(i:Int))) /\ i <= s.size) (fun st=>s.size-st.2.2.2.toNat) (fun r=>r=b++(d5l s s.size).flatMap (e05 d))
  (s:=(d,b,(s,0))) ⟨0,by simp [d5l],Nat.zero_le _⟩ (by dsimp only;have:=hs.1;omega) ?_
 ·obtain ⟨r,h1,h2⟩:=this;rw [h1,h2]
 ·rintro st rec ⟨i,rfl,hi⟩
  have hlen:(b++(d5l s i).flatMap (e05 d)).length <= 2000:=by
   have:=c0m d (d5l s i)
   have hl:(d5l s i).length=i:=by simp [d5l]
   have:=hs.1
   rw [List.length_append];omega
  unfold b2u
  dsimp only
  by_cases h:i<s.size
  ·right
   obtain ⟨_,h2⟩:=hs.2 i h
   have hn:c5l s (i:Int)=some (some ((s.get! i).toNat:Int)):=by unfold c5l;rw [if_pos (by omega),Int.toNat_natCast,if_pos h2]
   rw [hn]
   refine ⟨(d,b++(d5l s (i+1)).flatMap (e05 d),(s,((i+1:Nat):Int))),?_,⟨i+1,rfl,h⟩,by simp only [Int.toNat_natCast];omega⟩
   rw [e0d,List.flatMap_append,<- List.append_assoc]
   generalize b++(d5l s i).flatMap (e05 d)=q at hlen⊢
   generalize ((s.get! i).toNat:Int)=c
   simp only [List.flatMap_cons,List.flatMap_nil,List.append_nil]
   have a1: ∀x,l9 q 1 [x]=some (q++b5p x 1):=fun x=>f8c q 1 x (by omega) (by omega)
   have a2: ∀x,l9 q 2 [x]=some (q++b5p x 2):=fun x=>f8c q 2 x (by omega) (by omega)
   have a4: ∀x,l9 q 4 [x]=some (q++b5p x 4):=fun x=>f8c q 4 x (by omega) (by omega)
   have a3: ∀x y,l9 q 3 [x,y]=some (q++(b5p x 3++b5p y 3)):=fun x y=>by
    have:=e4x q 3 [x,y] (by omega) (by simp) (by omega)
    simpa using this
   have ei:((i:Int)+1)=((i+1:Nat):Int):=by simp
   unfold e05
   simp only [optC,a1,a2,a3,a4,Option.bind_some,beq_iff_eq,ei]
   repeat' split
   all_goals first | rfl | simp
  ·left
   have:i=s.size:=by omega
   subst this
   have hn:c5l s (s.size:Int)=none:=by unfold c5l;rw [if_neg (by omega)]
   rw [hn]
   exact ⟨_,rfl,rfl⟩
theorem d8w:c6s a91:=⟨by decide,by decide⟩
theorem d19:c6s a5j:=⟨by decide,by decide⟩
theorem f2m:c6s b89:=⟨by decide,by decide⟩
theorem d6p:c6s a7a:=⟨by decide,by decide⟩
theorem e7s:c6s b4l:=⟨by decide,by decide⟩
theorem f3n:c6s b7z:=⟨by decide,by decide⟩
theorem f5k:c6s b74:=⟨by decide,by decide⟩
theorem g0u:c6s c3e:=⟨by decide,by decide⟩
theorem e6s {k:Int} (h0:1 <= k) (h1:k <= 14): ∃s,a9t k=some s /\ a5m k=some s /\ c6s s:=by
 have:k=1 \/ k=2 \/ k=3 \/ k=4 \/ k=5 \/ k=6 \/ k=7 \/ k=8 \/ k=9 \/ k=10 \/ k=11 \/ k=12 \/ k=13 \/ k=14:=by omega
 rcases this with rfl | rfl | rfl | rfl | rfl | rfl | rfl | rfl | rfl | rfl | rfl | rfl | rfl | rfl
 exact ⟨a91,by kernel_rfl,by kernel_rfl,d8w⟩
 exact ⟨a5j,by kernel_rfl,by kernel_rfl,d19⟩
 exact ⟨a5j,by kernel_rfl,by kernel_rfl,d19⟩
 exact ⟨b89,by kernel_rfl,by kernel_rfl,f2m⟩
 exact ⟨a7a,by kernel_rfl,by kernel_rfl,d6p⟩
 exact ⟨b4l,by kernel_rfl,by kernel_rfl,e7s⟩
 exact ⟨a7a,by kernel_rfl,by kernel_rfl,d6p⟩
 exact ⟨a7a,by kernel_rfl,by kernel_rfl,d6p⟩
 exact ⟨a7a,by kernel_rfl,by kernel_rfl,d6p⟩
 exact ⟨b7z,by kernel_rfl,by kernel_rfl,f3n⟩
 exact ⟨b74,by kernel_rfl,by kernel_rfl,f5k⟩
 exact ⟨b74,by kernel_rfl,by kernel_rfl,f5k⟩
 exact ⟨b74,by kernel_rfl,by kernel_rfl,f5k⟩
 exact ⟨c3e,by kernel_rfl,by kernel_rfl,g0u⟩
def f7j (d:api_Fact):List Int:=[if d.Withdrawn=true then (1:Int) else 0,d.Person,d.Kind].flatMap (fun n=>b5p n 1)++((d5l ((a9t d.Kind).getD a1v) ((a9t d.Kind).getD a1v).size).flatMap (e05 d))
def d5v (d:api_Fact):List Int:=b5p d.Issuer 1++(b5p d.Number 2++(b5p d.Version 1++f7j d))
theorem c7i (d:api_Fact) (h:vld d=true):b5t d=some (d5v d):=by
 obtain ⟨k0,k1⟩:=e7h h
 obtain ⟨s,e1,_,hs⟩:=e6s k0 k1
 have key: ∀x:Int,b2q (d,x)=some (b5p d.Issuer 1++(b5p d.Number 2++(b5p d.Version 1++([x,d.Person,d.Kind].flatMap (fun n=>b5p n 1)++(d5l s s.size).flatMap (e05 d))))):=by
  intro x
  unfold b2q
  dsimp only
  have a1:=f8c [] 1 d.Issuer (by omega) (by simp)
  have a2:=f8c ([]++b5p d.Issuer 1) 2 d.Number (by omega) (by simp [b47])
  have a3:=e4x ([]++b5p d.Issuer 1++b5p d.Number 2) 1 [d.Version,x,d.Person,d.Kind] (by omega) (by simp) (by simp [b47])
  have c1:((1:Nat):Int)=1:=rfl
  have c2:((2:Nat):Int)=2:=rfl
  rw [c1] at a1 a3;rw [c2] at a2
  rw [a1,Option.bind_some,a2,Option.bind_some,a3,Option.bind_some,e1,Option.bind_some,e4i d s hs _ (by simp [b47])]
  simp
 unfold b5t d5v f7j
 rw [b5o,h,Option.bind_some,if_neg (by simp),e1]
 cases hw:d.Withdrawn
 ·rw [if_neg (by simp)];rw [b6i,key];simp
 ·rw [if_pos rfl];rw [b6i,key];simp
end Go.PL
namespace Go.PL
open Go Go.SX
theorem d5p: ∀(x y:List UInt8),(Lib.compareBytes x y<0)↔Op.bytesLess x y=true
 | [],[]=>by simp [Lib.compareBytes,Op.bytesLess]
 | [],_::_=>by simp [Lib.compareBytes,Op.bytesLess]
 | _::_,[]=>by simp [Lib.compareBytes,Op.bytesLess]
 | a::x,b::y=>by
   have ih:=d5p x y
   unfold Lib.compareBytes Op.bytesLess
   by_cases h1:a<b
   ·simp [h1]
   ·by_cases h2:b<a
    ·have h3:(a==b)=false:=by
      rw [beq_eq_false_iff_ne];rintro rfl;exact h1 h2
     simp [h1,h2,h3]
    ·have h3:a=b:=by
      have e1: ¬a.toNat<b.toNat:=h1
      have e2: ¬b.toNat<a.toNat:=h2
      exact UInt8.toNat_inj.1 (by omega)
     subst h3
     simp [h1,ih]
def e75 (a b:api_Fact):Bool:=Op.bytesLess (Lib.bytesOf (d5v a)) (Lib.bytesOf (d5v b))
theorem e25 {a b:api_Fact} (ha:vld a=true) (hb:vld b=true):c10 a b=some (e75 a b):=by
 unfold c10
 rw [b5o,b5o,ha,hb]
 simp only [Option.bind_some,Bool.not_true,Bool.false_eq_true,if_false]
 rw [c7i a ha,c7i b hb]
 simp only [Option.bind_some]
 unfold b6g b3s f9h e75
 simp only [Option.bind_some,List.map_id']
 congr 1
 rw [Bool.eq_iff_iff,decide_eq_true_eq]
 exact d5p _ _
end Go.PL
namespace Go.PL
open Go Go.SX
def c4b (a b:api_Fact):Prop:=a.Issuer<b.Issuer \/ (a.Issuer=b.Issuer /\ a.Number<b.Number)
instance (a b:api_Fact):Decidable (c4b a b):=by unfold c4b;exact inferInstance
def c6e:List api_Fact -> api_Fact -> List api_Fact
 | [],f=>[f]
 | a::t,f=>if c4b a f then a::c6e t f else if c4b f a then f::a::t else (if e75 a f=true then f else a)::t
theorem d66 (f:api_Fact): ∀l,(c6e l f).length <= l.length+1
 | []=>Nat.le_refl _
 | a::t=>by
   have:=d66 f t
   unfold c6e
   split
   ·simp;omega
   ·split<;>simp
theorem c8h {f u:api_Fact}: ∀{l:List api_Fact},u∈c6e l f -> u∈l \/ u=f
 | [],h=>by rw [c6e,List.mem_singleton] at h;exact .inr h
 | a::t,h=>by
   unfold c6e at h
   split at h
   ·rcases List.mem_cons.1 h with h | h
    ·exact .inl (h▸List.mem_cons_self ..)
    ·exact (c8h h).imp (List.mem_cons_of_mem _) id
   ·split at h
    ·rcases List.mem_cons.1 h with h | h
     ·exact .inr h
     ·exact .inl h
    ·rcases List.mem_cons.1 h with h | h
     ·split at h
      ·exact .inr h
      ·exact .inl (h▸List.mem_cons_self ..)
     ·exact .inl (List.mem_cons_of_mem _ h)
theorem d9z {a b c:api_Fact} (h1:c4b a b) (h2:c4b b c):c4b a c:=by unfold c4b at *; omega
theorem d6i {f:api_Fact}: ∀{l:List api_Fact},l.Pairwise c4b -> (c6e l f).Pairwise c4b
 | [],_=>List.pairwise_singleton _ _
 | a::t,h=>by
   obtain ⟨h1,h2⟩:=List.pairwise_cons.1 h
   unfold c6e
   split
   ·rename_i hc
    refine List.pairwise_cons.2 ⟨fun u hu=> ?_,d6i h2⟩
    rcases c8h hu with h | h
    ·exact h1 u h
    ·rw [h];exact hc
   ·rename_i hn
    split
    ·rename_i hc
     refine List.pairwise_cons.2 ⟨fun u hu=> ?_,h⟩
     rcases List.mem_cons.1 hu with h | h
     ·rw [h];exact hc
     ·exact d9z hc (h1 u h)
    ·rename_i hm
     refine List.pairwise_cons.2 ⟨fun u hu=> ?_,h2⟩
     have:=h1 u hu
     split
     ·unfold c4b at *; omega
     ·exact this
theorem d79 {f:api_Fact} {q:List api_Fact}: ∀{p:List api_Fact},(∀u∈p,c4b u f) -> c6e (p++q) f=p++c6e q f
 | [],_=>rfl
 | a::p,h=>by
   rw [List.cons_append,List.cons_append,<- d79 (p:=p) fun u hu=>h u (List.mem_cons_of_mem _ hu)]
   show (if c4b a f then _ else _)=_
   rw [if_pos (h a (List.mem_cons_self ..))]
theorem e94 (x y:Int):m6 x y=some (if x<y then-1 else if y<x then 1 else 0):=by
 unfold m6 a68
 simp only [bne_self_eq_false,Option.bind_some,Bool.false_eq_true,if_false,decide_eq_true_eq]
 split
 ·rfl
 ·split<;>rfl
theorem f3k (a b:api_Fact):a7t a b=some (if c4b a b then-1 else if c4b b a then 1 else 0):=by
 have hor: ∀x y:Int,a4a [x,y]=some (if x≠0 then x else y):=by
  intro x y
  unfold a4a
  refine a9s (f:=a4x [x,y]) [x,y] (fun (_:Unit) i=>i) (fun _ i=>(1 <= i -> x=0) /\ (2 <= i -> y=0)) (fun o=>o=some (if x≠0 then x else y)) (by simp) ?_ ?_ () ⟨fun h=>by omega,fun h=>by omega⟩
  ·rintro rec _ i v hi hv ⟨h1,h2⟩
   unfold a4x
   rw [if_pos (by simp at hi ⊢; omega),b50 hv,Option.bind_some,b40 (by simp at hi;omega)]
   simp at hi
   have:i=0 \/ i=1:=by omega
   rcases this with rfl | rfl
   ·simp at hv;subst hv
    by_cases hx:x=0
    ·right;rw [if_neg (by simp [hx])];exact ⟨(),rfl,fun _=>hx,fun h=>by omega⟩
    ·left;rw [if_pos (by simp [hx]),if_pos hx]
   ·simp at hv;subst hv
    have hx:=h1 (Nat.le_refl _)
    by_cases hy:y=0
    ·right;rw [if_neg (by simp [hy])];exact ⟨(),rfl,fun _=>hx,fun _=>hy⟩
    ·left;rw [if_pos (by simp [hy]),if_neg (by simp [hx])]
  ·rintro rec _ ⟨h1,h2⟩
   have hx:=h1 (by simp)
   have hy:=h2 (by simp)
   unfold a4x
   rw [if_neg (by simp),hx,hy];rfl
 unfold a7t
 rw [e94,Option.bind_some,e94,Option.bind_some,hor,Option.bind_some]
 congr 1
 unfold c4b
 by_cases h1:a.Issuer<b.Issuer
 ·simp [h1]
 ·by_cases h2:b.Issuer<a.Issuer
  ·have: ¬a.Issuer=b.Issuer:=by omega
   have: ¬b.Issuer=a.Issuer:=by omega
   simp [*]
  ·have e:a.Issuer=b.Issuer:=by omega
   simp [e]
theorem d9x {a b:api_Fact} (ha:vld a=true) (hb:vld b=true):b1c a b=some (if e75 a b=true then b else a):=by
 unfold b1c
 rw [e25 ha hb,Option.bind_some]
 split<;>rfl
def e07:=g8
theorem d3v (k:Nat) (d x:List api_Fact) (hl:x.length+d.length <= 2^30):d8 (k+1) e07 (d,[],x)=some (x++d):=by
 show e07 (d8 k e07) (d,[],x)=_
 unfold e07 g8
 dsimp only
 rw [a5n,Option.bind_some,if_neg (by simp),a85 (by omega),Option.bind_some,a85 (by simp;omega),Option.bind_some,List.append_nil]
theorem e11 {f:api_Fact} (hf:vld f=true): ∀(d x:List api_Fact) (k:Nat),(∀u∈d,vld u=true) -> x.length+d.length <= 2^29 -> d.length+2 <= k -> d8 k e07 (d,[f],x)=some (x++c6e d f)
 | [],x,k,_,hl,hk=>by
   obtain ⟨k,rfl⟩: ∃j,k=j+1:=⟨k-1,by omega⟩
   show e07 (d8 k e07) ([],[f],x)=_
   unfold e07 g8
   dsimp only
   rw [a5n,Option.bind_some,if_neg (by simp),a85 (by simp at hl ⊢; omega),Option.bind_some,a85 (by simp at hl ⊢; omega),Option.bind_some,List.append_nil];rfl
 | a::d,x,k,hd,hl,hk=>by
   obtain ⟨k,rfl⟩: ∃j,k=j+1:=⟨k-1,by omega⟩
   simp only [List.length_cons] at hl hk
   have ha:=hd a (List.mem_cons_self ..)
   have hd': ∀u∈d,vld u=true:=fun u hu=>hd u (List.mem_cons_of_mem _ hu)
   have s1:a2t (a::d) 1 ((a::d).length:Int)=some d:=by
    rw [b5r (by omega) (by simp;omega) (Int.le_refl _)];simp
   have s2:a2t [f] 1 (([f]:List api_Fact).length:Int)=some []:=by
    rw [b5r (by omega) (by simp) (Int.le_refl _)];rfl
   have ih:=e11 hf d (x++[a]) k hd' (by simp;omega) (by omega)
   show e07 (d8 k e07) (a::d,[f],x)=_
   generalize hLP:d8 k e07=LP at ih
   unfold e07 g8
   dsimp only
   have g1:i7 (a::d) 0=some a:=rfl
   have g2:i7 [f] 0=some f:=rfl
   rw [a5n,Option.bind_some,if_pos (by simp)]
   simp only [g1,g2,Option.bind_some,f3k]
   unfold c6e
   by_cases h1:c4b a f
   ·rw [if_pos h1,if_pos h1,if_pos (by decide),a85 (by simp;omega),Option.bind_some,s1,Option.bind_some,ih];simp
   ·rw [if_neg h1,if_neg h1]
    by_cases h2:c4b f a
    ·rw [if_pos h2,if_pos h2,if_neg (by decide),if_pos (by decide),a85 (by simp;omega),Option.bind_some,s2,Option.bind_some,<- hLP]
     obtain ⟨k,rfl⟩: ∃j,k=j+1:=⟨k-1,by omega⟩
     rw [d3v k (a::d) (x++[f]) (by simp;omega)];simp
    ·rw [if_neg h2,if_neg h2,if_neg (by decide),if_neg (by decide)]
     rw [d9x ha hf,Option.bind_some,a85 (by simp;omega),Option.bind_some,s1,Option.bind_some,s2,Option.bind_some,<- hLP]
     obtain ⟨k,rfl⟩: ∃j,k=j+1:=⟨k-1,by omega⟩
     rw [d3v k d _ (by simp;omega)];simp
def b2z (l:List api_Fact):List api_Fact:=(l.filter vld).foldl c6e []
theorem c72: ∀(l out:List api_Fact),(∀u∈l,vld u=true) -> (∀u∈out,vld u=true) -> out.Pairwise c4b -> (∀u∈l.foldl c6e out,vld u=true) /\ (l.foldl c6e out).Pairwise c4b /\ (l.foldl c6e out).length <= out.length+l.length
 | [],out,_,h2,h3=>⟨h2,h3,by simp⟩
 | f::l,out,h1,h2,h3=>by
   have:=c72 l (c6e out f) (fun u hu=>h1 u (List.mem_cons_of_mem _ hu)) (fun u hu=>(c8h hu).elim (h2 u) (fun e=>e▸h1 f (List.mem_cons_self ..))) (d6i h3)
   have hl:=d66 f out
   refine ⟨this.1,this.2.1,?_⟩
   have:=this.2.2
   simp only [List.foldl_cons,List.length_cons] at this ⊢; omega
theorem c29 (l:List api_Fact):(∀u∈b2z l,vld u=true) /\ (b2z l).Pairwise c4b /\ (b2z l).length <= l.length:=by
 have:=c72 (l.filter vld) [] (fun u hu=>(List.mem_filter.1 hu).2) (fun u h=>(by cases h)) .nil
 refine ⟨this.1,this.2.1,?_⟩
 have h2:=List.length_filter_le vld l
 have:=this.2.2
 simp only [List.length_nil] at this
 unfold b2z;omega
theorem e58 (l:List api_Fact) (y:api_Fact):b2z (l++[y])=if vld y=true then c6e (b2z l) y else b2z l:=by
 unfold b2z
 rw [List.filter_append,List.foldl_append]
 cases h:vld y<;>simp [h]
theorem c3i (l:List api_Fact) (hl:l.length <= 2^20):a69 l=some (b2z l):=by
 unfold a69
 refine a9s (f:=a5x l) l (fun s i=>(s,i)) (fun s i=>s=b2z (l.take i)) (fun o=>o=some (b2z l)) (by omega) ?_ ?_ [] (by simp [b2z])
 ·rintro rec s i y hi hy rfl
  right
  refine ⟨_,?_,rfl⟩
  have ho:=c29 (l.take i)
  rw [List.length_take] at ho
  unfold a5x
  dsimp only
  rw [if_pos (by simp;omega),b50 hy,Option.bind_some,b5o,Option.bind_some,b40 (by omega),b7e hy,e58]
  cases hv:vld y with
  | false=>rw [if_neg (by simp),if_neg (by simp)]
  | true=>
    rw [if_pos rfl,if_pos rfl]
    have hm:g9 (b2z (l.take i)) [y]=some (c6e (b2z (l.take i)) y):=by
     have:=e11 hv (b2z (l.take i)) [] FU ho.1 (by simp;omega) (by unfold FU;omega)
     rw [List.nil_append] at this;exact this
    rw [hm,Option.bind_some]
 ·rintro rec s rfl
  unfold a5x
  dsimp only
  rw [if_neg (by simp),List.take_length]
theorem c2q (l:List api_Fact) (hl:l.length <= 2^20):a7h l []=some (b2z l):=by
 have ho:=c29 l
 unfold a7h
 rw [c3i l hl,Option.bind_some,c3i [] (by simp),Option.bind_some]
 have hm:g9 (b2z l) (b2z [])=some (b2z l):=by
  have e:FU=1180591620717411303423+1:=rfl
  have:=d3v 1180591620717411303423 (b2z l) [] (by simp;omega)
  rw [<- e] at this
  exact this
 rw [hm];rfl
end Go.PL
namespace Go.PL
open Go Go.SX
theorem b8w: ∀(q acc:List api_Fact),q.Pairwise c4b -> (∀u∈acc,∀v∈q,c4b u v) -> q.foldl c6e acc=acc++q
 | [],acc,_,_=>by simp
 | f::q,acc,hq,ha=>by
   obtain ⟨h1,h2⟩:=List.pairwise_cons.1 hq
   have e:c6e acc f=acc++[f]:=by
    have:=d79 (f:=f) (q:=[]) (p:=acc) fun u hu=>ha u hu f List.mem_cons_self
    rwa [List.append_nil] at this
   rw [List.foldl_cons,e,b8w q _ h2 fun u hu v hv=> ?_,List.append_assoc]
   ·rfl
   ·rcases List.mem_append.1 hu with hu | hu
    ·exact ha u hu v (List.mem_cons_of_mem _ hv)
    ·rw [List.mem_singleton] at hu;subst hu;exact h1 v hv
theorem e3v (l:List api_Fact):b2z (b2z l)=b2z l:=by
 obtain ⟨h1,h2,_⟩:=c29 l
 have e:(b2z l).filter vld=b2z l:=List.filter_eq_self.2 h1
 show ((b2z l).filter vld).foldl c6e []=_
 rw [e,b8w _ _ h2 fun u hu=>by cases hu]
 rfl
def fs (l:List api_Fact):List api_Fact:=(b2z l).filter cur
section
variable {l:List api_Fact} (hl:l.length <= 2^20)
include hl
theorem d51:(b2z l).length <= 2^20:=Nat.le_trans (c29 l).2.2 hl
theorem g3l:(fs l).length <= 2^20:=Nat.le_trans (List.length_filter_le _ _) (d51 hl)
theorem e44:b4k (b2z l)=some (fs l):=by
 unfold b4k
 rw [c2q _ (d51 hl),Option.bind_some,e3v,d41 _ (by have:=d51 hl;omega),Option.bind_some];rfl
theorem d34 (p d:Int):a8z l p d=some (b6s (ofP l p) d):=by
 unfold a8z
 rw [d7n l p (by omega),Option.bind_some,c65 _ (by have:=d03 l p;omega),Option.bind_some,b1m,Option.bind_some]
 rfl
end
def raB (c d:Int) (f:api_Fact):Bool:=(((f.Kind==10)&&(f.Ref==c))&&decide (f.Span.From <= d))&&decide (d<f.Span.To)
theorem d8i (l:List api_Fact) (c d:Int) (hl:l.length <= 2^30):b2w l c d=some (l.any (raB c d)):=by
 obtain ⟨n,h1,h2⟩:=c7e (f:=q8 l c d) l (raB c d) hl (fun rec i y hy=>by
  have hi:=(List.getElem?_eq_some_iff.1 hy).1
  unfold q8 b3l
  rw [if_pos (c5w hi)]
  simp only [b50 hy,Option.bind_some,a5n]
  rfl) fun rec=>by
  unfold q8
  rw [if_neg (b9s _)]
 unfold b2w y6 a07
 rw [h1,Option.bind_some,Option.bind_some,h2]
theorem e2a (l:List api_Fact) (p:Int):(ofP l p).filter cur=ofP (l.filter cur) p:=by
 unfold ofP
 rw [List.filter_filter,List.filter_filter]
 congr 1
 funext f
 exact Bool.and_comm _ _
def d3q:List Int:=(List.range 99).map fun i:Nat=>(i:Int)+1
theorem c0f:d3q.length=99:=by simp [d3q]
theorem f2w {i:Nat} {y:Int} (h:d3q[i]? =some y):y=(i:Int)+1 /\ i<99:=by
 have hi:=(List.getElem?_eq_some_iff.1 h).1
 rw [c0f] at hi
 unfold d3q at h
 rw [List.getElem?_map,List.getElem?_range hi] at h
 exact ⟨(Option.some.inj h).symm,hi⟩
theorem e5p {i:Nat} (h:i<99):i64 ((i:Int)+1+1)=((i+1:Nat):Int)+1:=by rw [j8 (by omega) (by omega)];omega
theorem e6w {σ ρ τ:Type} {f:(σ -> Option ρ) -> σ -> Option ρ} (e:τ -> Int -> σ) (I:τ -> Nat -> Prop) (Q:Option ρ -> Prop)
  (hstep: ∀(rec:σ -> Option ρ) (s:τ) (i:Nat),i<99 -> I s i -> Q (f rec (e s ((i:Int)+1))) \/ ∃s',f rec (e s ((i:Int)+1))=rec (e s' (i64 ((i:Int)+1+1))) /\ I s' (i+1))
  (hfin: ∀(rec:σ -> Option ρ) (s:τ),I s 99 -> Q (f rec (e s 100))) (s:τ) (h0:I s 0):Q (d8 FU f (e s 1)):=by
 have h1:=a9s (f:=f) d3q (fun s i=>e s (i+1)) I Q (by rw [c0f];omega) (fun rec s i y hi hy hI=>by
  have hi':=(f2w hy).2
  rcases hstep rec s i hi' hI with h | ⟨s',h,h'⟩
  ·exact .inl h
  ·exact .inr ⟨s',by rw [h,e5p hi'],h'⟩) (fun rec s hI=>by
  rw [c0f] at hI⊢
  exact hfin rec s hI) s h0
 exact h1
theorem d89 {f:(List Int×Int -> Option (List Int)) -> List Int×Int -> Option (List Int)} (p:Int -> Bool)
  (hstep: ∀(rec:List Int×Int -> Option (List Int)) (s:List Int) (y:Int),1 <= y -> y <= 99 -> f rec (s,y)=if p y=true then Option.bind (a8q 8 s [y]) (fun a=>rec (a,i64 (y+1))) else rec (s,i64 (y+1)))
  (hfin: ∀(rec:List Int×Int -> Option (List Int)) (s:List Int),f rec (s,100)=some s):d8 FU f ([],1)=some (d3q.filter p):=by
 refine e6w (f:=f) (fun s i=>(s,i)) (fun s i=>s=(d3q.take i).filter p) (fun o=>o=some (d3q.filter p)) ?_ ?_ [] (by simp)
 ·rintro rec s i hi rfl
  right
  have hy:d3q[i]? =some ((i:Int)+1):=by unfold d3q;rw [List.getElem?_map,List.getElem?_range hi];rfl
  have hlen:((d3q.take i).filter p).length <= 99:=by
   have:=List.length_filter_le p (d3q.take i);rw [List.length_take] at this;omega
  rw [hstep _ _ _ (by omega) (by omega),b7e hy,List.filter_append]
  by_cases hc:p ((i:Int)+1)=true
  ·rw [if_pos hc,a85 (by simp;omega),Option.bind_some]
   exact ⟨_,rfl,by simp [hc]⟩
  ·rw [if_neg hc]
   rw [Bool.not_eq_true] at hc
   exact ⟨_,rfl,by simp [hc]⟩
 ·rintro rec s rfl
  rw [hfin,show d3q.take 99=d3q from List.take_of_length_le (by rw [c0f];omega)]
def f6e (F:List api_Fact) (c d y:Int):Bool:=((y != c)&&(ofP F y).any (raB c d))&&b6s (ofP F y) d
def g0t (F:List api_Fact) (c d:Int):Bool:= !((((decide (c<1)||decide (c>99))||decide (d<0))||decide (d>73048))|| !b6s (ofP F c) d)
def f6f (F:List api_Fact) (c d:Int):List Int:=if g0t F c d=true then d3q.filter (f6e F c d) else []
theorem d52 {l:List api_Fact} (hl:l.length <= 2^20) (c d:Int):b12 (b2z l) c d=some (f6f (fs l) c d):=by
 have hF:=g3l hl
 unfold b12
 rw [e44 hl,Option.bind_some]
 generalize fs l=F at hF
 unfold b52 f6f g0t
 simp only [b1m,d34 hF,Option.bind_some]
 cases hc:((((decide (c<1)||decide (c>99))||decide (d<0))||decide (d>73048))|| !b6s (ofP F c) d)
 ·rw [if_neg (by simp),Bool.not_false,if_pos rfl,d89 (f6e F c d) (fun rec s y h1 h2=> ?_) fun rec s=> ?_,Option.bind_some]
  ·have hq:=d03 F y
   unfold b0l
   dsimp only
   rw [if_pos (by simp;omega)]
   by_cases hy:(y != c)=true
   ·rw [if_pos hy,d7n F y (by omega),Option.bind_some,d8i _ c d (by omega),Option.bind_some]
    simp only [d34 hF,Option.bind_some,a5n]
    unfold f6e
    rw [hy,Bool.true_and]
   ·rw [if_neg hy]
    rw [Bool.not_eq_true] at hy
    unfold f6e
    rw [hy]
    simp
  ·unfold b0l
   dsimp only
   rw [if_neg (by simp)]
 ·rw [if_pos rfl,Bool.not_true,if_neg (by simp),Option.bind_some]
theorem f4k (F:List api_Fact) (c d:Int):(f6f F c d).length <= 99:=by
 unfold f6f
 split
 ·have:=List.length_filter_le (f6e F c d) d3q;rw [c0f] at this;exact this
 ·simp
theorem d2k (l:List Int) (x:Int) (hl:l.length <= 2^30):a4s l x=some (l.any fun y=>x==y):=by
 obtain ⟨n,h1,h2⟩:=c7e (f:=a4u l x) l (fun y=>x==y) hl (fun rec i y hy=>by
  have hi:=(List.getElem?_eq_some_iff.1 hy).1
  unfold a4u
  rw [if_pos (c5w hi)]
  simp only [b50 hy,Option.bind_some]) fun rec=>by
  unfold a4u
  rw [if_neg (b9s _)]
 unfold a4s a8t
 rw [h1,Option.bind_some,h2]
end Go.PL
namespace Go.PL
open Go Go.SX
theorem q_nn {a b:Int} (h0:0 <= a) (h1:a <= 4611686018427387904) (hb:0<b):b7a a b=some (a/b):=by
 obtain ⟨r,e,h,_⟩:=c0c h0 (by omega) hb
 rw [e,h]
theorem g1o {a b:Int} (h0:0 <= a) (hb:0<b):b46 a b=some (a%b):=by
 obtain ⟨r,e,h,_⟩:=b4g h0 hb
 rw [e,h]
theorem c4e {n m:Int} (h0:0<m) (h1:m <= 4611686018427387904):b6 n m=some (n%m):=by
 unfold b6
 rw [c28 (by omega),Option.bind_some]
 have h6:=Int.emod_nonneg n (by omega:m≠0)
 have h7:=Int.emod_lt_of_pos n h0
 have h4:n.tmod m=n%m \/ n.tmod m=n%m-m:=by
  rw [Int.tmod_eq_emod]
  split
  ·left;simp
  ·right;omega
 by_cases h:n.tmod m<0
 ·rw [if_pos (by simpa using h),j8 (by omega) (by omega)]
  congr 1;omega
 ·rw [if_neg (by simpa using h)]
  congr 1;omega
def f6g (y mo:Int):Int:=if mo=2 then (if (y%4=0 /\ y%100≠0) \/ y%400=0 then 29 else 28) else if mo=4 \/ mo=6 \/ mo=9 \/ mo=11 then 30 else 31
theorem d8f (y mo:Int):28 <= f6g y mo /\ f6g y mo <= 31:=by unfold f6g;split<;>split<;>omega
def c45 (m:Nat):Int:=f6g (1900+((m/12:Nat):Int)) (((m%12:Nat):Int)+1)
def S:Nat -> Int
 | 0=>0
 | m+1=>S m+c45 m
theorem b0q (m:Nat):28 <= c45 m /\ c45 m <= 31:=d8f _ _
theorem g33 {a b:Nat} (h:a <= b):S a+28*((b:Int)-a) <= S b:=by
 induction b with
 | zero=>have:a=0:=by omega
         subst this;simp
 | succ b ih=>
   by_cases hab:a <= b
   ·have:=ih hab;have:=b0q b;simp only [S];omega
   ·have:a=b+1:=by omega
    subst this;simp
theorem d6t {a b:Nat} (h:a <= b):S a <= S b:=by have:=g33 h;omega
theorem S_lt {a b:Nat} (h:a<b):S a<S b:=by have:=g33 (Nat.le_of_lt h);omega
theorem c2k: ∀m:Nat,0 <= S m /\ S m <= 31*(m:Int)
 | 0=>by simp [S]
 | m+1=>by have:=c2k m;have:=b0q m;simp only [S];omega
theorem c51 {y mo:Int} (hy:0 <= y /\ y <= 100000) (hm:1 <= mo /\ mo <= 12):a0b y mo=some (f6g y mo):=by
 unfold a0b b2t f6g
 simp only [g1o hy.1 (by decide:(0:Int)<4),g1o hy.1 (by decide:(0:Int)<100),g1o hy.1 (by decide:(0:Int)<400),Option.bind_some,a5n,b1m]
 rw [j8 (by omega) (by omega)]
 by_cases h2:mo=2
 ·subst h2
  simp only [beq_self_eq_true,if_true,Option.bind_some,Bool.true_and]
  by_cases hl:(y%4=0 /\ y%100≠0) \/ y%400=0
  ·rw [if_pos hl,if_pos (by simp;simpa using hl)]
  ·rw [if_neg hl,if_neg (by simp;simpa using hl)];rfl
 ·have:(mo==2)=false:=by simpa using h2
  rw [this,Bool.false_and,if_neg (by simp),if_neg h2]
  have hc:mo=1 \/ mo=3 \/ mo=4 \/ mo=5 \/ mo=6 \/ mo=7 \/ mo=8 \/ mo=9 \/ mo=10 \/ mo=11 \/ mo=12:=by omega
  rcases hc with h | h | h | h | h | h | h | h | h | h | h<;>subst h<;>rfl
theorem d4w (m:Nat) (hm:m <= 100000):i64 (1900+(m:Int)/12)=1900+((m/12:Nat):Int) /\ i64 ((m:Int)%12+1)=((m%12:Nat):Int)+1:=by
 rw [j8 (by omega) (by omega),j8 (by omega) (by omega)]
 omega
theorem qm (m:Nat) (hm:m <= 100000):b7a (m:Int) 12=some ((m:Int)/12):=q_nn (by omega) (by omega) (by omega)
theorem rm (m:Nat):b46 (m:Int) 12=some ((m:Int)%12):=g1o (by omega) (by omega)
theorem d6d: ∀(n:Nat) {d:Int},0 <= d -> d<S n -> ∃m:Nat,m<n /\ S m <= d /\ d<S (m+1)
 | 0,d,h0,h1=>by simp [S] at h1;omega
 | n+1,d,h0,h1=>by
   by_cases h:d<S n
   ·obtain ⟨m,a,b,c⟩:=d6d n h0 h;exact ⟨m,by omega,b,c⟩
   ·exact ⟨n,by omega,by omega,h1⟩
def y12 (n:Nat):Int:=c45 (12*n)+c45 (12*n+1)+c45 (12*n+2)+c45 (12*n+3)+c45 (12*n+4)+c45 (12*n+5)+c45 (12*n+6)+c45 (12*n+7)+c45 (12*n+8)+c45 (12*n+9)+c45 (12*n+10)+c45 (12*n+11)
theorem c4o (n:Nat):S (12*(n+1))=S (12*n)+y12 n:=by
 rw [show 12*(n+1)=12*n+12 by omega]
 simp only [S,y12]
 omega
def g1c:Nat -> Nat -> Int -> Bool
 | 0,_,_=>true
 | k+1,n,s=>(a29 (1900+(n:Int))==some s)&&(a4r (1900+(n:Int))==some (y12 n))&&g1c k (n+1) (s+y12 n)
theorem e0c: ∀(k n:Nat),g1c k n (S (12*n))=true -> ∀j,n <= j -> j<n+k -> a29 (1900+(j:Int))=some (S (12*j)) /\ a4r (1900+(j:Int))=some (y12 j)
 | 0,n,_,j,h1,h2=>by omega
 | k+1,n,h,j,h1,h2=>by
   simp only [g1c,Bool.and_eq_true,beq_iff_eq] at h
   by_cases hj:j=n
   ·subst hj;exact h.1
   ·rw [<- c4o] at h
    exact e0c k (n+1) h.2 j (by omega) (by omega)
theorem d8b:g1c 201 0 0=true:=by kernel_rfl
theorem c98 {n:Nat} (hn:n <= 200):a29 (1900+(n:Int))=some (S (12*n)) /\ a4r (1900+(n:Int))=some (y12 n):=e0c 201 0 d8b n (Nat.zero_le _) (by omega)
theorem e14 (n:Nat):336 <= y12 n /\ y12 n <= 372:=by
 have:=g33 (show 12*n <= 12*(n+1) by omega)
 have h:=c4o n
 have e: ∀k,c45 k <= 31:=fun k=>(b0q k).2
 have:=e (12*n);have:=e (12*n+1);have:=e (12*n+2);have:=e (12*n+3);have:=e (12*n+4);have:=e (12*n+5)
 have:=e (12*n+6);have:=e (12*n+7);have:=e (12*n+8);have:=e (12*n+9);have:=e (12*n+10);have:=e (12*n+11)
 unfold y12 at*
 omega
def sumY:Nat -> Int
 | 0=>0
 | n+1=>sumY n+y12 n
theorem f1j: ∀n,S (12*n)=sumY n
 | 0=>rfl
 | n+1=>by rw [c4o,f1j n];rfl
theorem e4q:S 2400=73049:=by
 have h:=f1j 200
 rw [show 12*200=2400 from rfl] at h
 exact h.trans (by kernel_rfl)
def e7l:Nat -> Nat -> Int -> Bool
 | 0,_,_=>true
 | k+1,n,s=>decide (s <= 366*(n:Int))&&e7l k (n+1) (s+y12 n)
theorem d6v: ∀(k n:Nat),e7l k n (S (12*n))=true -> ∀j,n <= j -> j<n+k -> S (12*j) <= 366*(j:Int)
 | 0,n,_,j,h1,h2=>by omega
 | k+1,n,h,j,h1,h2=>by
   simp only [e7l,Bool.and_eq_true,decide_eq_true_eq] at h
   by_cases hj:j=n
   ·subst hj;exact h.1
   ·rw [<- c4o] at h
    exact d6v k (n+1) h.2 j (by omega) (by omega)
theorem d45:e7l 201 0 0=true:=by kernel_rfl
theorem g43 {n:Nat} (hn:n <= 200):S (12*n) <= 366*(n:Int):=d6v 201 0 d45 n (Nat.zero_le _) (by omega)
theorem c95 {n k:Nat} (hn:n <= 1000) (hk:k<12):a0b (1900+(n:Int)) ((k:Int)+1)=some (c45 (12*n+k)):=by
 rw [c51 (by omega) (by omega)]
 unfold c45
 rw [show (12*n+k)/12=n by omega,show (12*n+k)%12=k by omega]
theorem f2v {n k:Nat} (hn:n<200) (hk:k<12):a7d (1900+(n:Int)) ((k:Int)+1) 1=some (S (12*n+k),true):=by
 unfold a7d
 have hb:=c2k (12*n)
 have hl:=b0q (12*n+k)
 rw [c95 (by omega) hk,(c98 (n:=n) (by omega)).1]
 have e1:(((((decide (1900+(n:Int)<1900)||decide (1900+(n:Int)>2099))||decide ((k:Int)+1<1))||decide ((k:Int)+1>12))||decide ((1:Int)<1))||decide ((1:Int)>c45 (12*n+k)))=false:=by
  simp only [Bool.or_eq_false_iff,decide_eq_false_iff_not];omega
 simp only [Option.bind_some,b1m,e1,Bool.false_eq_true,if_false]
 rw [j8 (n:=S (12*n)+1) (by omega) (by omega),j8 (by omega) (by omega)]
 obtain ⟨r,h1,h2⟩:=b2v (f:=b3o ((k:Int)+1) (1900+(n:Int))) (fun s=> ∃x:Nat,s=(S (12*n+x),(x:Int)+1) /\ x <= k) (fun s=>k+1-s.2.toNat) (fun r=>r=(S (12*n+k),true)) (s:=(S (12*n)+1-1,1)) ⟨0,by simp,Nat.zero_le _⟩ (by show k+1-_<_;omega) (by
  rintro s rec ⟨x,rfl,hx⟩
  unfold b3o
  dsimp only
  by_cases h:x<k
  ·right
   have hb:=c2k (12*n+x)
   have hl:=b0q (12*n+x)
   rw [if_pos (by simp;omega),c95 (by omega) (by omega),Option.bind_some,j8 (n:=S (12*n+x)+c45 (12*n+x)) (by omega) (by omega),j8 (n:=(x:Int)+1+1) (by omega) (by omega)]
   exact ⟨(S (12*n+(x+1)),((x+1:Nat):Int)+1),rfl,⟨x+1,rfl,h⟩,by simp only [];omega⟩
  ·left
   have:x=k:=by omega
   subst this
   rw [if_neg (by simp)]
   exact ⟨_,rfl,rfl⟩)
 rw [h1,h2]
theorem e8p {m:Nat} (hm:m<2400):a7d (1900+((m/12:Nat):Int)) (((m%12:Nat):Int)+1) 1=some (S m,true):=by
 have hd:=f2v (n:=m/12) (k:=m%12) (by omega) (Nat.mod_lt _ (by omega))
 rwa [Nat.div_add_mod] at hd
theorem g2h {m:Nat} (hm:m<2400):a4o (m:Int)=some true:=by
 unfold a4o
 have e1:(decide ((m:Int) >= 0)&&decide ((m:Int) <= 2399))=true:=by rw [Bool.and_eq_true];exact ⟨decide_eq_true (by omega),decide_eq_true (by omega)⟩
 rw [a5n,e1];rfl
theorem b4y {m:Nat} (hm:m<2400):a1p (m:Int)=some (S m,true):=by
 have hd:=e8p hm
 obtain ⟨h1,h2⟩:=d4w m (by omega)
 rw [<- h1,<- h2] at hd
 unfold a1p
 rw [g2h hm,qm m (by omega),rm]
 show (a7d _ _ 1).bind _=_
 rw [hd];rfl
theorem e7v {d:Int} {m:Nat} (hm:m<2400) (h1:S m <= d) (h2:d<S (m+1)):a9h d=some (1900+((m/12:Nat):Int),((m%12:Nat):Int)+1,d-S m+1,true):=by
 have hS:=d6t (show m+1 <= 2400 by omega)
 have h24:=e4q
 have hb0:=c2k m
 have hv:(decide (d >= 0)&&decide (d <= 73048))=true:=by rw [Bool.and_eq_true];exact ⟨decide_eq_true (by omega),decide_eq_true (by omega)⟩
 unfold a9h a4f
 simp only [a5n,hv,Option.bind_some,Bool.not_true,Bool.false_eq_true,if_false]
 rw [q_nn (by omega) (by omega) (by omega),Option.bind_some,j8 (by omega) (by omega)]
 have hn0:(d/366).toNat <= 199:=by omega
 have hs0:=g43 (n:=(d/366).toNat) (by omega)
 obtain ⟨r,h3,h4⟩:=b2v (f:=b27 d) (fun s=> ∃n:Nat,s=1900+(n:Int) /\ n <= 199 /\ S (12*n) <= d) (fun s=>3000-s.toNat) (fun r=>r=(1900+((m/12:Nat):Int),((m%12:Nat):Int)+1,d-S m+1,true)) (s:=1900+d/366) ⟨(d/366).toNat,by omega,hn0,by omega⟩ (by show 3000-_<_;omega) (by
  rintro s rec ⟨n,rfl,hn,hsn⟩
  have hb:=c2k (12*n)
  have hy:=e14 n
  unfold b27
  rw [(c98 (n:=n) (by omega)).1,(c98 (n:=n) (by omega)).2]
  simp only [Option.bind_some]
  rw [j8 (n:=S (12*n)+y12 n) (by omega) (by omega)]
  by_cases h:S (12*n)+y12 n <= d
  ·right
   have hlt:n<199:=by
    by_cases h9:n=199
    ·subst h9
     have:=c4o 199
     rw [show 12*(199+1)=2400 from rfl] at this
     omega
    ·omega
   rw [if_pos (by simpa using h),j8 (n:=1900+(n:Int)+1) (by omega) (by omega)]
   have e4:1900+(n:Int)+1=1900+((n+1:Nat):Int):=by omega
   rw [e4]
   exact ⟨_,rfl,⟨n+1,rfl,by omega,by rw [c4o];exact h⟩,by omega⟩
  ·left
   rw [if_neg (by simpa using h),j8 (n:=d-S (12*n)) (by omega) (by omega)]
   have hnm:m/12=n:=by
    have h5:12*n <= m:=by
     rcases Nat.lt_or_ge m (12*n) with h6 | h6
     ·have:=d6t (show m+1 <= 12*n by omega);omega
     ·exact h6
    have h7:m<12*(n+1):=by
     rcases Nat.lt_or_ge m (12*(n+1)) with h6 | h6
     ·exact h6
     ·have:=d6t h6;rw [c4o] at this;omega
    omega
   refine b2v (f:=b25 (1900+(n:Int))) (fun s=> ∃x:Nat,s=((x:Int)+1,d-S (12*n+x)) /\ x <= m%12) (fun s=>13-s.1.toNat) _ ⟨0,rfl,Nat.zero_le _⟩ (by show 13-_<_;omega) ?_
   rintro s rec2 ⟨x,rfl,hx⟩
   unfold b25
   dsimp only
   have hb2:=c2k (12*n+x)
   have hl:=b0q (12*n+x)
   rw [c95 (by omega) (by omega)]
   simp only [Option.bind_some]
   have e:S (12*n+x+1)=S (12*n+x)+c45 (12*n+x):=rfl
   by_cases h8:x<m%12
   ·right
    have:=d6t (show 12*n+x+1 <= m by omega)
    rw [if_pos (by simp;omega),j8 (n:=(x:Int)+1+1) (by omega) (by omega),j8 (n:=d-S (12*n+x)-c45 (12*n+x)) (by omega) (by omega)]
    have e3:d-S (12*n+x)-c45 (12*n+x)=d-S (12*n+x+1):=by rw [e];omega
    have e4:(x:Int)+1+1=((x+1:Nat):Int)+1:=by omega
    rw [e3,e4]
    exact ⟨_,rfl,⟨x+1,by rw [Nat.add_assoc],h8⟩,by simp only [];omega⟩
   ·left
    have hxm:12*n+x=m:=by omega
    have hx12:m%12=x:=by omega
    rw [hxm] at e hl hb2⊢
    rw [if_neg (by simp;omega),j8 (n:=d-S m+1) (by omega) (by omega)]
    exact ⟨_,rfl,by rw [hnm,hx12]⟩)
 rw [h3,h4]
theorem e2p {d:Int} {m:Nat} (hm:m<2400) (h1:S m <= d) (h2:d<S (m+1)):a6e d=some (m:Int):=by
 unfold a6e
 rw [e7v hm h1 h2]
 simp only [Option.bind_some,Bool.not_true,Bool.false_eq_true,if_false]
 rw [j8 (n:=1900+((m/12:Nat):Int)-1900) (by omega) (by omega),j8 (n:=12*(1900+((m/12:Nat):Int)-1900)) (by omega) (by omega),j8 (n:=12*(1900+((m/12:Nat):Int)-1900)+(((m%12:Nat):Int)+1)) (by omega) (by omega),j8 (by omega) (by omega)]
 congr 1;omega
theorem c8z {d:Int} (hd: ¬(0 <= d /\ d <= 73048)):a6e d=some (-1):=by
 unfold a6e a9h a4f
 have e1:(decide (d >= 0)&&decide (d <= 73048))=false:=by
  rw [Bool.and_eq_false_iff,decide_eq_false_iff_not,decide_eq_false_iff_not];omega
 simp only [a5n,e1,Option.bind_some,Bool.not_false,if_true]
end Go.PL
namespace Go.PL
open Go Go.SX
def e4u (d:Int) (r:Int×Bool):Prop:=
 (r=(0,false) /\ (¬(0 <= d /\ d <= 73048) \/ S 2399<d)) \/ ∃m:Nat,m<2400 /\ r=((m:Int),true) /\ 0 <= d /\ d <= 73048 /\ d <= S m /\ (m=0 \/ S (m-1)<d)
theorem e3b (c:Claim): ∃r,a1z c=some r /\ e4u c.Day r:=by
 by_cases hd:0 <= c.Day /\ c.Day <= 73048
 ·have h24:=e4q
  obtain ⟨m,hm,h1,h2⟩:=d6d 2400 hd.1 (by omega)
  have e1: ¬(decide ((m:Int)<0))=true:=by simp
  unfold a1z
  rw [e2p hm h1 h2,Option.bind_some,if_neg e1,b4y hm,Option.bind_some]
  dsimp only
  rw [b6i,b6i]
  unfold b0u
  by_cases h3:S m<c.Day
  ·rw [if_pos (decide_eq_true h3),j8 (n:=(m:Int)+1) (by omega) (by omega)]
   by_cases h4:m=2399
   ·subst h4
    exact ⟨(0,false),rfl,.inl ⟨rfl,.inr h3⟩⟩
   ·have e2:decide ((m:Int)+1>2399)=false:=by rw [decide_eq_false_iff_not];omega
    have e3:(decide ((m:Int)+1 >= 0)&&decide ((m:Int)+1 <= 2399))=true:=by rw [Bool.and_eq_true];exact ⟨decide_eq_true (by omega),decide_eq_true (by omega)⟩
    simp only [e2,Bool.false_eq_true,if_false]
    exact ⟨_,rfl,.inr ⟨m+1,by omega,by simp,hd.1,hd.2,by omega,.inr (by simpa using h3)⟩⟩
  ·have e9: ¬(decide (S m<c.Day))=true:=by simpa using h3
   rw [if_neg e9]
   have e2:decide ((m:Int)>2399)=false:=by rw [decide_eq_false_iff_not];omega
   have hvm:(decide ((m:Int) >= 0)&&decide ((m:Int) <= 2399))=true:=by rw [Bool.and_eq_true];exact ⟨decide_eq_true (by omega),decide_eq_true (by omega)⟩
   simp only [e2,Bool.false_eq_true,if_false]
   refine ⟨_,rfl,.inr ⟨m,hm,rfl,hd.1,hd.2,by omega,?_⟩⟩
   by_cases h0:m=0
   ·exact .inl h0
   ·right
    have:=S_lt (show m-1<m by omega)
    omega
 ·unfold a1z
  rw [c8z hd]
  exact ⟨(0,false),rfl,.inl ⟨rfl,.inl hd⟩⟩
def b3j (c:Claim):Prop:=(0 <= c.Issuer /\ c.Issuer <= 5) /\ (1 <= c.Number /\ c.Number <= 999) /\ (1 <= c.Person /\ c.Person <= 99) /\
 (((c.Benefit=3 \/ c.Benefit=4) /\ 1 <= c.Ref /\ c.Ref <= 99 /\ c.Ref≠c.Person) \/ ((c.Benefit=1 \/ c.Benefit=2 \/ c.Benefit=5) /\ c.Ref=0))
instance (c:Claim):Decidable (b3j c):=by unfold b3j;infer_instance
theorem d3o (c:Claim): ∃r,a1z c=some r /\ a4d c=some (decide (b3j c)&&r.2):=by
 obtain ⟨r,h1,_⟩:=e3b c
 refine ⟨r,h1,?_⟩
 unfold a4d
 simp only [b6i,b1m,Option.bind_some]
 unfold b0t
 simp only [b6i,b1m,Option.bind_some]
 unfold a7p
 simp only [b6i]
 unfold b0x
 rw [h1]
 simp only [Option.bind_some]
 by_cases a1:0 <= c.Issuer /\ c.Issuer <= 5 /\ 1 <= c.Number /\ c.Number <= 999 /\ 1 <= c.Person /\ c.Person <= 99
 ·rw [if_neg (by simp;omega)]
  by_cases b:c.Benefit=3 \/ c.Benefit=4
  ·by_cases a2:1 <= c.Ref /\ c.Ref <= 99 /\ c.Ref≠c.Person
   ·have hok:b3j c:=⟨⟨a1.1,a1.2.1⟩,⟨a1.2.2.1,a1.2.2.2.1⟩,⟨a1.2.2.2.2.1,a1.2.2.2.2.2⟩,.inl ⟨b,a2⟩⟩
    have e2:((decide (c.Ref<1)||decide (c.Ref>99))||(c.Ref==c.Person))=false:=by
     simp only [Bool.or_eq_false_iff,decide_eq_false_iff_not,beq_eq_false_iff_ne];exact ⟨⟨by omega,by omega⟩,a2.2.2⟩
    rcases b with b | b<;>simp [b,e2,hok]
   ·have hok: ¬b3j c:=by
     rintro ⟨_,_,_,h | h⟩
     ·exact a2 h.2
     ·omega
    have e2:((decide (c.Ref<1)||decide (c.Ref>99))||(c.Ref==c.Person))=true:=by
     simp only [Bool.or_eq_true,decide_eq_true_eq,beq_iff_eq];omega
    rcases b with b | b<;>simp [b,e2,hok]
  ·have b3:(c.Benefit==3)=false:=by simp;omega
   have b4:(c.Benefit==4)=false:=by simp;omega
   simp only [b3,b4,Bool.false_eq_true,if_false]
   by_cases b':c.Benefit=1 \/ c.Benefit=2 \/ c.Benefit=5
   ·by_cases a2:c.Ref=0
    ·have hok:b3j c:=⟨⟨a1.1,a1.2.1⟩,⟨a1.2.2.1,a1.2.2.2.1⟩,⟨a1.2.2.2.2.1,a1.2.2.2.2.2⟩,.inr ⟨b',a2⟩⟩
     rcases b' with b' | b' | b'<;>simp [b',a2,hok]
    ·have hok: ¬b3j c:=by
      rintro ⟨_,_,_,h | h⟩
      ·omega
      ·exact a2 h.2
     rcases b' with b' | b' | b'<;>simp [b',a2,hok]
   ·have hok: ¬b3j c:=by rintro ⟨_,_,_,h | h⟩<;>omega
    have b1:(c.Benefit==1)=false:=by simp;omega
    have b2:(c.Benefit==2)=false:=by simp;omega
    have b5:(c.Benefit==5)=false:=by simp;omega
    simp [b1,b2,b5,hok]
 ·have hok: ¬b3j c:=by rintro ⟨h1,h2,h3,_⟩;omega
  rw [if_pos (by simp;omega)]
  simp [hok]
def b4d (c:Claim):Prop:=b3j c /\ 35150 <= c.Day /\ c.Day <= 36049
theorem f8o:73000 <= S 2399:=by
 have h:=e4q
 have:S 2400=S 2399+c45 2399:=rfl
 have:=b0q 2399
 omega
theorem d6w {c:Claim} (h:0 <= c.Day /\ c.Day <= 72000): ∃m,a1z c=some (m,true) /\ 0 <= m /\ m <= 2399:=by
 obtain ⟨r,h1,h2⟩:=e3b c
 have h3:=f8o
 rcases h2 with ⟨_,h2 | h2⟩ | ⟨m,hm,h2,_⟩
 ·omega
 ·omega
 ·subst h2;exact ⟨_,h1,by omega,by omega⟩
theorem d80 {c:Claim} (h:b4d c):a4d c=some true:=by
 obtain ⟨m,h1,_⟩:=d6w (c:=c) (by have:=h.2;omega)
 obtain ⟨r,h2,h3⟩:=d3o c
 rw [h1] at h2;cases h2
 rw [h3,decide_eq_true h.1];rfl
theorem e15 (d:List pensionhand_Claim):Tot (a6s d) fun r=>r.length <= 6 /\ ∀c∈r,b4d c:=by
 have h3: ∀n,b6 n 3=some (n%3):=fun n=>c4e (by decide) (by decide)
 have h9: ∀n,b6 n 9=some (n%9):=fun n=>c4e (by decide) (by decide)
 have h4: ∀n,b6 n 4=some (n%4):=fun n=>c4e (by decide) (by decide)
 have h5: ∀n,b6 n 5=some (n%5):=fun n=>c4e (by decide) (by decide)
 have h900: ∀n,b6 n 900=some (n%900):=fun n=>c4e (by decide) (by decide)
 unfold a6s
 refine Tot.loop (I:=fun v:List Claim×Int=>0 <= v.2 /\ v.2 <= 6 /\ (v.1.length:Int)=v.2 /\ ∀c∈v.1,b4d c) (μ:=fun v=>(6-v.2).toNat) ⟨Int.le_refl _,by show (0:Int) <= 6;omega,rfl,by simp⟩ (by show (6-0:Int).toNat<_;omega) ?_
 intro r v hI ih
 obtain ⟨g1,g2,g3,g4⟩:=hI
 unfold b1t
 rw [a5n,Option.bind_some]
 refine Tot.ite (fun hc=> ?_) fun _=>Tot.some ⟨by omega,g4⟩
 simp at hc
 have nx: ∀(c:Claim),b4d c -> Tot (Option.bind (a8q 48 v.1 [c]) fun a=>r (a,i64 (v.2+1))) fun r=>r.length <= 6 /\ ∀c∈r,b4d c:=fun c hc=>by
  refine Tot.bind (b8e (by simp;omega)) fun a ha=> ?_
  subst ha
  rw [b5a g1 (by omega)]
  refine ih _ ⟨by show 0 <= v.2+1;omega,by show v.2+1 <= 6;omega,by simp;omega,fun x hx=> ?_⟩ (by show (6-(v.2+1)).toNat<(6-v.2).toNat;omega)
  rcases List.mem_append.1 hx with hx | hx
  ·exact g4 x hx
  ·rw [List.mem_singleton.1 hx];exact hc
 obtain ⟨y,hg,_⟩:=b4n g1 (show v.2<(d.length:Int) by omega)
 simp only [hg,h3,h9,h4,h5,h900,b1m,Option.bind_some]
 rw [j8 (n:=1+y.Number%9) (by omega) (by omega),j8 (n:=1+y.Person%4) (by omega) (by omega),j8 (n:=1+y.Benefit%5) (by omega) (by omega),j8 (n:=35150+y.Day%900) (by omega) (by omega),
  j8 (n:=1+y.Ref%4) (by omega) (by omega),j8 (n:=1+(1+y.Person%4)%4) (by omega) (by omega)]
 split
 ·rename_i hb
  simp only [Bool.or_eq_true,beq_iff_eq] at hb
  split
  ·exact nx _ ⟨⟨⟨by simp only [];omega,by simp only [];omega⟩,⟨by simp only [];omega,by simp only [];omega⟩,⟨by simp only [];omega,by simp only [];omega⟩,.inl ⟨hb,by simp only [];omega,by simp only [];omega,by simp only [];omega⟩⟩,by simp only [];omega,by simp only [];omega⟩
  ·rename_i hr
   simp only [beq_iff_eq] at hr
   exact nx _ ⟨⟨⟨by simp only [];omega,by simp only [];omega⟩,⟨by simp only [];omega,by simp only [];omega⟩,⟨by simp only [];omega,by simp only [];omega⟩,.inl ⟨hb,by simp only [];omega,by simp only [];omega,hr⟩⟩,by simp only [];omega,by simp only [];omega⟩
 ·rename_i hb
  simp only [Bool.or_eq_true,beq_iff_eq,not_or] at hb
  exact nx _ ⟨⟨⟨by simp only [];omega,by simp only [];omega⟩,⟨by simp only [];omega,by simp only [];omega⟩,⟨by simp only [];omega,by simp only [];omega⟩,.inr ⟨by simp only [];omega,rfl⟩⟩,by simp only [];omega,by simp only [];omega⟩
theorem f7k (n:Int):Tot (a5l n) fun r=>r.length=6 /\ ∀c∈r,b4d c:=by
 unfold a5l
 rw [c4e (by decide) (by decide),Option.bind_some]
 have h:0 <= n%400 /\ n%400<400:=by omega
 generalize n%400=z at h
 rw [j8 (n:=35150+z) (by omega) (by omega)]
 refine Tot.some ⟨rfl,fun c hc=> ?_⟩
 simp only [List.mem_cons,List.not_mem_nil,or_false] at hc
 rcases hc with rfl | rfl | rfl | rfl | rfl | rfl<;>exact ⟨by unfold b3j;simp,by simp only [];omega,by simp only [];omega⟩
end Go.PL
