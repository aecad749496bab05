/- Texts of the proof, joined. -/
import Derived.Test.YtaadmpfcifegdaaGreatDoorP3
import Derived.RangeFuncNested
import Derived.RangeFuncBox
import Derived.Shelf.Strconv.Itoa3
import Derived.Lib.LaidTab
import Derived.Laws.BitsLemmas
import Derived.Laws.Bits64
import Derived.KernelRfl
set_option linter.unusedVariables false
set_option linter.unusedSimpArgs false
set_option maxRecDepth 100000
namespace Go.PL
open Go Go.RowKit
structure StillR (B:Nat) (I:World -> Prop):Prop where
 al: ∀W o,I W -> I (W.alloc o)
 pu: ∀W l o o',B <= l -> W.heap[l]? =some o -> o.isCells=false -> I W -> I (W.putObj l o')
def g64 (B:Nat) (Kp:World -> World -> Prop) (I':World -> Prop) (Ix:Code -> World -> Prop) (W:World):Exit -> Act -> World -> Prop
 | .normal,_,W'=>KeepsFrom B W W' /\ Kp W W' /\ I' W'
 | .ret,_,W'=>KeepsFrom B W W' /\ Ix .ret W'
 | .exit id,_,W'=>KeepsFrom B W W' /\ Ix (.exit id) W'
 | .goto t,_,W'=>KeepsFrom B W W' /\ Ix (.goto t) W'
 | _,_,_=>False
theorem f6o {W:World} {l:Nat} {r:Loop} (h:W.heap[l]? =some (.loop r)):l<W.heap.size:=(Array.getElem?_eq_some_iff.1 h).1
theorem g0e {n:Nat} {P:Program} {g:Operand} {ps:Array Tmp} {assign body:Code} {Q:Exit -> Act -> World -> Prop} {a:Act} {w:World} {F:Fence}
  (hro:F.round=none) (hn:1 <= n) {gf:Nat} {lb:Array Value} (hg:a.eval g= .func (.func gf) #[] lb) (hF:F.fn gf) (eg: ∀args w,(callFunc gf args).run P w= .ok (.enter gf args) w)
  (enc:Nat -> Array Value) (len:Nat) (Kp:World -> World -> Prop)
  (hit: ∀(l:Nat) (J Jx:Nat -> World -> Prop) (W:World),Below w.heap.size w W ->
   (∀k W1,J k W1 -> k<len -> YieldAt F (n-1-1) P l (enc k) W1 fun e W'=>(e= .returned (.bool true) /\ J (k+1) W' /\ Kp W1 W') \/ (e= .returned (.bool false) /\ Jx (k+1) W')) ->
   J 0 W -> CallsIn F (n-1) P gf (#[.func (.yield l) #[] #[]]++lb) W fun e W'=>(∃v,e= .returned v) /\ (J len W' \/ ∃k,k <= len /\ Jx k W'))
  (hKt: ∀A B C,Kp A B -> Kp B C -> Kp A C) (hKp: ∀(W:World) (l:Nat) (o o':Obj),w.heap.size <= l -> W.heap[l]? =some o -> o.isCells=false -> o.isWalk=false -> Kp W (W.putObj l o')) (hps: ∀k,(enc k).size=ps.size)
  (I:Nat -> World -> Prop) (Ix:Nat -> Code -> World -> Prop) (Ax:Nat -> Act -> World -> Prop)
  (cI: ∀k,StillR w.heap.size (I k)) (cX: ∀k c,StillR w.heap.size (Ix k c)) (cA: ∀k a',StillR w.heap.size (Ax k a')) (h0:I 0 w)
  (hass: ∀(l k:Nat) (W:World) (K:Act -> World -> Prop),I k W -> (∀a' W',KeepsFrom w.heap.size W W' -> Kp W W' -> I k W' -> Ax k a' W' -> K a' W') ->
   assign.wpIn (F.inRound l) (n-1-1) P (Exit.then K (fun _ _ _=>False)) {tmps:=(ps.zip (enc k)).foldl (fun t (p,v)=>t.setIfInBounds p v) a.tmps,defers:=[]} W)
  (hbody: ∀(l k:Nat) (a':Act) (W:World),I k W -> Ax k a' W -> k<len -> body.wpIn (F.inRound l) (n-1-1) P (g64 w.heap.size Kp (I (k+1)) (Ix (k+1)) W) a' W)
  (hdone: ∀(D:Nat) (W:World),w.heap.size <= D -> I len W -> W.heap[D]? =some (.deferred (some [])) -> Q .normal {a with defers:={target:= .collected D,args:= #[]}::a.defers} W)
  (hstop: ∀(D k:Nat) (c:Code) (W:World),w.heap.size <= D -> k <= len -> Ix k c W -> W.heap[D]? =some (.deferred (some [])) -> c.wpIn F n P Q {a with defers:={target:= .collected D,args:= #[]}::a.defers} W):
  (Code.rangeFunc g ps assign body).wpIn F n P Q a w:=by
 have b1:Below w.heap.size w (w.alloc (.deferred (some []))):=(Below.refl _ w).alloc (Nat.le_refl _) _
 refine wpIn_rangeFunc fun fn hfn=> ?_
 let R:LoopState -> Option Code -> Loop:=fun s j=>{state:=s,pending:=j,fn,tmps:=a.tmps,params:=ps,assign,body,defers:=w.heap.size}
 let V:=(w.alloc (.deferred (some []))).alloc (.loop (R .ready none))
 have vD:V.heap[w.heap.size]? =some (.deferred (some [])):=(Below.heap_alloc _ _ _ (by simp)).trans (World.alloc_heap_new w _)
 have vL:V.heap[w.heap.size+1]? =some (.loop (R .ready none)):=by
  have:=World.alloc_heap_new (w.alloc (.deferred (some []))) (.loop (R .ready none));rwa [World.size_alloc] at this
 have vI:I 0 V:=(cI 0).al _ _ ((cI 0).al _ _ h0)
 have vB:Below w.heap.size w V:=b1.alloc (by simp) _
 have henter:(Instr.enterLoop fn a.tmps ps assign body F.round).run P w= .ok (w.heap.size+1,[{target:= .collected w.heap.size,args:= #[]}]) V:=by rw [hro];exact run_enterLoop_outer _ _ _ _ _
 have hres:(resolve a.eval (rangeCall g (w.heap.size+1)) 0).run P V= .ok {target:= .fn (.func gf) lb,args:= #[.func (.yield (w.heap.size+1)) #[] #[]]} V:=by
  simp only [resolve,hg]
  simp [go_sem]
 refine ⟨_,_,V,_,V,gf,#[.func (.yield (w.heap.size+1)) #[] #[]]++lb,V,henter,hres,?_,?_,fun _=>hn,?_⟩
 ·intro f' hf';simp [Target.leads] at hf';subst hf';exact hF
 ·simp [invoke,go_sem,eg]
 let Bk (s:LoopState) (j:Option Code) (W:World):Prop:=W.heap[w.heap.size+1]? =some (.loop (R s j)) /\ W.heap[w.heap.size]? =some (.deferred (some []))
 have kd: ∀{s j W} (s':LoopState) (j':Option Code),Bk s j W -> Bk s' j' (W.putObj (w.heap.size+1) (.loop (R s' j'))):=fun _ _ h=>
  ⟨World.putObj_heap_same (f6o h.1),(World.putObj_heap_other (by omega)).trans h.2⟩
 have kf: ∀{s j W W'},KeepsFrom w.heap.size W W' -> Bk s j W -> Bk s j W':=fun hk h=>⟨hk.same _ _ (by omega) h.1 rfl,hk.same _ _ (Nat.le_refl _) h.2 rfl⟩
 refine (hit (w.heap.size+1) (fun k W=>I k W /\ Bk .ready none W) (fun k W=> ∃c,Ix k c W /\ Bk .done (some c) W) V vB ?_ ⟨vI,vL,vD⟩).mono ?_
 ·intro k W ⟨hi,hb⟩ hk
  refine ⟨fn,_,assign,body,run_yield (P:=P) (args:=enc k) hb.1 (hps k),roundIn_of_wpIn hfn (hass _ k W _ hi fun a' W' hkf hkp hi' ha'=> ?_)⟩
  have hb':=kf hkf hb
  refine ⟨_,run_beginRound hb'.1 rfl,?_⟩
  have hb2:Bk .busy none (W'.putObj (w.heap.size+1) (.loop (R .busy none))):=kd _ _ hb'
  refine wpIn_mono (hbody _ k a' _ ((cI k).pu _ _ _ _ (by omega) hb'.1 rfl hi') ((cA k a').pu _ _ _ _ (by omega) hb'.1 rfl ha') hk) fun e a3 W3 hp=> ?_
  have fin: ∀(j:Option Code),KeepsFrom w.heap.size (W'.putObj (w.heap.size+1) (.loop (R .busy none))) W3 ->
    (Instr.endRound (w.heap.size+1) j).run P W3= .ok (.bool j.isNone) (W3.putObj (w.heap.size+1) (.loop (R (if j.isNone then .ready else .done) j))) /\ Bk .busy none W3:=fun j hk3=>⟨run_endRound (P:=P) j (kf hk3 hb2).1,kf hk3 hb2⟩
  have out: ∀(c:Code),KeepsFrom w.heap.size (W'.putObj (w.heap.size+1) (.loop (R .busy none))) W3 -> Ix (k+1) c W3 ->
    ∃v W4,(Instr.endRound (w.heap.size+1) (some c)).run P W3= .ok v W4 /\ ((Ending.returned v= .returned (.bool true) /\ (I (k+1) W4 /\ Bk .ready none W4) /\ Kp W W4) \/ (Ending.returned v= .returned (.bool false) /\ ∃c,Ix (k+1) c W4 /\ Bk .done (some c) W4)):=fun c hk3 hx=>by
   obtain ⟨hr,hb3⟩:=fin (some c) hk3
   exact ⟨_,_,hr,.inr ⟨rfl,c,(cX _ c).pu _ _ _ _ (by omega) hb3.1 rfl hx,kd _ _ hb3⟩⟩
  cases e with
  | normal=>
    obtain ⟨hk3,hkp3,hi3⟩:=hp
    obtain ⟨hr,hb3⟩:=fin none hk3
    exact ⟨_,_,hr,.inl ⟨rfl,⟨(cI _).pu _ _ _ _ (by omega) hb3.1 rfl hi3,kd _ _ hb3⟩,hKt _ _ _ hkp (hKt _ _ _ (hKp _ _ _ _ (by omega) hb'.1 rfl rfl) (hKt _ _ _ hkp3 (hKp _ _ _ _ (by omega) hb3.1 rfl rfl)))⟩⟩
  | ret=>exact out .ret hp.1 hp.2
  | exit id=>exact out (.exit id) hp.1 hp.2
  | goto t=>exact out (.goto t) hp.1 hp.2
  | panic ch=>exact hp.elim
  | outgrown=>exact hp.elim
 ·rintro e W2 ⟨⟨v,rfl⟩,⟨hi,hb⟩ | ⟨k,hk,c,hi,hb⟩⟩
  ·exact ⟨none,_,run_endLoop (P:=P) hb.1 (by simp [R]),hdone _ _ (Nat.le_refl _) ((cI _).pu _ _ _ _ (by omega) hb.1 rfl hi) ((World.putObj_heap_other (by omega)).trans hb.2)⟩
  ·exact ⟨some c,_,run_endLoop (P:=P) hb.1 (by simp [R]),hstop _ k c _ (Nat.le_refl _) hk ((cX _ c).pu _ _ _ _ (by omega) hb.1 rfl hi) ((World.putObj_heap_other (by omega)).trans hb.2)⟩
theorem a8b {B Bx:Nat} {t:TypeId} {v:Value}:StillR B (fun W=>Boxed W Bx t v):=
 ⟨fun W o h=>h.alloc o,fun W l o o' _ hl ho h=>Own.putObj (I:=fun (_:Unit) W=>Boxed W Bx t v) (boxed_own Bx t fun _=>v) (s:=()) o' h hl ho⟩
theorem d03 {B n₀:Nat} {w0:World} (h1:n₀ <= w0.heap.size) (h2:n₀ <= B):StillR B (fun W=>Below n₀ w0 W /\ w0.drawn <= W.drawn):=
 ⟨fun W o h=>⟨h.1.alloc (Nat.le_trans h1 h.1.size) o,h.2⟩,fun W l o o' hB hl ho h=>⟨h.1.trans ⟨rfl,rfl,rfl,by simp,fun k hk=>World.putObj_heap_other (by omega)⟩,h.2⟩⟩
theorem c38 {B:Nat} {p:Prop}:StillR B (fun _=>p):=⟨fun _ _ h=>h,fun _ _ _ _ _ _ _ h=>h⟩
theorem StillR.and {B:Nat} {I J:World -> Prop} (h:StillR B I) (k:StillR B J):StillR B (fun W=>I W /\ J W):=
 ⟨fun W o hh=>⟨h.al _ _ hh.1,k.al _ _ hh.2⟩,fun W l o o' hB hl ho hh=>⟨h.pu _ _ _ _ hB hl ho hh.1,k.pu _ _ _ _ hB hl ho hh.2⟩⟩
theorem StillR.ex {α:Type} {B:Nat} {I:α -> World -> Prop} (h: ∀x,StillR B (I x)):StillR B (fun W=> ∃x,I x W):=
 ⟨fun W o ⟨x,hh⟩=>⟨x,(h x).al _ _ hh⟩,fun W l o o' hB hl ho ⟨x,hh⟩=>⟨x,(h x).pu _ _ _ _ hB hl ho hh⟩⟩
theorem Boxed.ex {w w1:World} {B:Nat} {t:TypeId} {v:Value} (hE:Ext noG w w1) (h:Boxed w B t v):Boxed w1 B t v:=(hE.block B h.lt (fun h=>h)).trans h
def d7v (B o:Nat) (v:Value) (W:World):Prop:=W.cell? ⟨B,o,none⟩=some v /\ ∃x:Obj,W.heap[B]? =some x /\ x.isCells=true
theorem d7v.of {B:Nat} {W W':World} (hb:W'.heap[B]? =W.heap[B]?) {o:Nat} {v:Value} (h:d7v B o v W):d7v B o v W':=
 ⟨by have:=h.1;unfold World.cell? at this ⊢; rwa [hb],by rw [hb];exact h.2⟩
theorem c6x {n B o:Nat} {v:Value}:StillR n (d7v B o v):=
 ⟨fun W x h=>h.of (by obtain ⟨_,y,hy,_⟩:=h;exact Below.heap_alloc _ _ _ (Array.getElem?_eq_some_iff.1 hy).1),fun W l x x' _ hl hx h=>h.of (World.putObj_heap_other fun e=>by
  obtain ⟨_,y,hy,hc⟩:=h
  rw [<- e,hy] at hl
  cases hl
  rw [hx] at hc;cases hc)⟩
theorem e1k {n m:Nat}:StillR n (fun W=>m <= W.heap.size):=⟨fun W o h=>by simp;omega,fun W l o o' _ _ _ h=>by simpa using h⟩
theorem d2r (W:World) (cs:Array Value) (t:TypeId) {o:Nat} {v:Value} (h:cs[o]? =some v):d7v W.heap.size o v (W.alloc (.cells cs t)):=
 ⟨by unfold World.cell?; rw [World.alloc_heap_new];exact h,_,World.alloc_heap_new W _,rfl⟩
end Go.PL
namespace Go.PL
open Go
def a8z:Nat -> Nat -> List UInt8
 | 0,u=>[UInt8.ofNat (48+u)]
 | k+1,u=>if u<10 then [UInt8.ofNat (48+u)] else a8z k (u/10)++[UInt8.ofNat (48+u%10)]
theorem e5b: ∀(k u:Nat),u<10^(k+1) -> a8z k u=Lib.decDigits u
 | 0,u,h=>by rw [Lib.decDigits,dif_pos (by simpa using h)];rfl
 | k+1,u,h=>by
   rw [Lib.decDigits]
   unfold a8z
   by_cases hu:u<10
   ·rw [if_pos hu,dif_pos hu]
   ·rw [if_neg hu,dif_neg hu,e5b k (u/10) (by rw [Nat.pow_succ] at h;omega)]
def strconv_Itoa (a0:Int):Option ByteArray:=if 0 <= a0 /\ a0 <= 9223372036854775807 then some ⟨(a8z 20 a0.toNat).toArray⟩ else none
end Go.PL
namespace Go.SX
open Go Go.PL Go.Proofs Go.Shelf
theorem e8y {P:Program} {nm:String} {k:IntKind} {zs:List Int} {g:Nat} (hg:P.globalNamed nm=some g) {w w':World} (h:Lib.TabIs P w nm k zs) (hb:w'.heap[g]? =w.heap[g]?):Lib.TabIs P w' nm k zs:=by
 unfold Lib.TabIs World.var? at*
 rw [hg] at*
 simpa [hb] using h
theorem g25 {P:Program} {nm:String} {k:IntKind} {zs:List Int} {g:Nat} (hg:P.globalNamed nm=some g) {w:World} (h:Lib.TabIs P w nm k zs):g<w.heap.size:=by
 unfold Lib.TabIs World.var? at h
 rw [hg] at h
 cases hh:w.heap[g]? with
 | none=>simp [hh] at h
 | some o=>exact (Array.getElem?_eq_some_iff.1 hh).1
theorem f1w (G:Nat -> Prop) (w:World) (k:Nat) (os:Array Obj):Ext G w (Sort.grow (w.drewN k) os):=
 ⟨rfl,rfl,rfl,by simp [Sort.grow,World.drewN],fun b hb _=>by simp [Sort.grow,World.drewN,Array.getElem?_append_left hb],by simp [Sort.grow,World.drewN]⟩
section
variable {P:Program} {U:Uni}
theorem e7b {ρ:Ren} (L:LaysM.n171 P ρ) (ht: ∀w,U.tab w -> Lib.TabIs P w "internal/strconv.uint64pow10" .u64 Lib.pow10Tab) {a c:U.C} (fa:U.T a -> Int) (ha: ∀x,(inj a x:U.AV)= .int .i64 (fa x)) (fc:ByteArray -> U.T c) (hc: ∀s,(inj c (fc s):U.AV)= .str s):
  Spec P (ρ.f 171) (⟨⟨[.v a],[.v c]⟩,ByteArray,fun x=>strconv_Itoa (fa x.1),fun b=>((fc b,()),()),none⟩:Fent U):=by
 intro xs r hr Z G w us hl hR
 match us,hl with
 | [u1],_=>
   have s0:AVR _ (inj a xs.1) u1:=hR.slot 0
   rw [ha] at s0
   have s0:u1= .int .i64 (fa xs.1):=s0
   have hr:strconv_Itoa (fa xs.1)=some r:=hr
   unfold strconv_Itoa at hr
   split at hr
   ·rename_i hb
    have hr:=(Option.some.inj hr).symm
    have e:Lib.itoa (fa xs.1)=a8z 20 (fa xs.1).toNat:=by
     unfold Lib.itoa
     rw [if_neg (by omega),e5b 20 _ (by omega)]
    have hC:=Any.strconv_Itoa L (fa xs.1) (by omega) hb.2 w (ht w hR.tab.1)
    subst s0
    show Calls P (ρ.f 171) #[Value.int .i64 (fa xs.1)] w _
    refine hC.mono ?_
    rintro e' w' ⟨he,k,os,hw⟩
    subst hw
    refine ⟨_,he,⟨Z,[_],[.int .i64 (fa xs.1)],rfl,fun _ h=>h,fun _ h=> .inl h,f1w _ _ _ _,rfl,fun _ _ _ _=>rfl,⟨?_,trivial⟩,trivial,?_,?_⟩⟩
    ·show a3f _ (inj c (fc r)) _
     rw [hc,hr,<- e];rfl
    ·intro v hv;cases hv
    ·intro i j v v' b _ hv;cases hv
   ·cases hr
end
end Go.SX
namespace Go.PL
open Go Go.SX
structure Rounding where
 Mode:Int
 Unit:Int
structure Credit where
 Kind:Int
 Limit:Int
structure Fraction where
 Num:Int
 Den:Int
structure Index where
 Year:Int
 Factor:Fraction
structure Expr where
 Op:Int
 Value:Fraction
 Dim:Int
 Name:ByteArray
 Args:List Expr
structure Let where
 Name:ByteArray
 Body:Expr
structure Grant where
 Benefit:Int
 If:Expr
 Pay:Expr
structure Reduce where
 Benefit:Int
 By:Expr
structure Version where
 From:Int
 Rounding:Rounding
 Credits:List Credit
 Series:List Index
 Lets:List Let
 Grants:List Grant
 Reduces:List Reduce
structure Rules where
 From:Int
 MinDays:Int
 PostingLimit:Int
 Substantial:Int
 Members:List Int
structure Binding where
 Name:ByteArray
 Dim:Int
structure Value where
 Dim:Int
 Yes:Bool
 Num:Fraction
structure Step where
 Name:ByteArray
 Value:Value
structure Entry where
 Month:Int
 Kind:Int
 With:Int
 Number:Int
 Amount:Int
structure Span where
 From:Int
 To:Int
structure api_Fact where
 Issuer:Int
 Number:Int
 Version:Int
 Withdrawn:Bool
 Person:Int
 Kind:Int
 State:Int
 Span:Span
 Seat:Int
 Share:Int
 Currency:Int
 Amount:Int
 Ref:Int
structure pensionhand_Fact where
 Issuer:Int
 Number:Int
 Version:Int
 Withdrawn:Bool
 Person:Int
 Kind:Int
 State:Int
 Seat:Int
 From:Int
 Length:Int
 Share:Int
 Amount:Int
 Ref:Int
structure Token where
 Kind:Int
 Text:ByteArray
 At:Int
structure pensionref5_reader where
 l:List Token
 at_:Int
 end_:Int
 bad:Bool
structure pensionref1_wide where
 hi:Int
 lo:Int
structure Statute where
 Name:ByteArray
 Currency:Int
 Versions:List Version
structure State where
 State:Int
 Statute:Statute
structure Rate where
 Currency:Int
 Month:Int
 Value:Fraction
structure Laws where
 States:List State
 Treaty:List Rules
 Rates:List Rate
structure pensionhand_Claim where
 Issuer:Int
 Number:Int
 Person:Int
 Benefit:Int
 Ref:Int
 Day:Int
structure Claim where
 Issuer:Int
 Number:Int
 Person:Int
 Benefit:Int
 Ref:Int
 Day:Int
structure pensionlaw26_Seeds where
 Laws:List Int
 Lives:List Int
 Facts:List pensionhand_Fact
 Claims:List pensionhand_Claim
 Day:Int
structure syntax_entry where
 name:ByteArray
 number:Int
structure decision_file where
 x:Laws
 facts:List api_Fact
 own:List api_Fact
 claims:List Claim
 person:Int
structure transition_law where
 version:Int
 rules:Int
structure Gross where
 State:Int
 Benefit:Int
 Currency:Int
 Independent:Int
 ProRata:Int
 Cut:Fraction
structure Award where
 State:Int
 Benefit:Int
 Day:Int
 Code:Int
 Few:Bool
 Independent:Int
 Theoretical:Int
 ProRata:Int
 Num:Int
 Den:Int
 Amount:Int
 Steps:List Step
structure Heir where
 Person:Int
 Kind:Int
 Days:Int
structure decision_item where
 gross:Gross
 award:Award
 heirs:List Heir
 at_:Int
structure Deduction where
 By:Int
 From:Int
 Amount:Int
structure Net where
 State:Int
 Benefit:Int
 Currency:Int
 Independent:Int
 ProRata:Int
 Deducted:Int
 Amount:Int
structure FamilyPay where
 State:Int
 Currency:Int
 Amount:Int
 Primary:Bool
structure Stage where
 Month:Int
 Law:Bool
 Ends:Bool
 Amount:Int
structure Running where
 Month:Int
 Amount:Int
 Protected:Bool
structure Row where
 State:Int
 Benefit:Int
 Month:Int
 Currency:Int
 Amount:Int
 Protected:Bool
structure Knowledge where
 Month:Int
 Facts:List api_Fact
 Claims:List Claim
 Received:List Entry
def a1v:ByteArray:=⟨#[]⟩
def a9n:ByteArray:=⟨#[83,80,84,72,67,65]⟩
def a5x:ByteArray:=⟨#[83,80,72,67,65]⟩
def b9e:ByteArray:=⟨#[83,80,84]⟩
def a7z:ByteArray:=⟨#[83,80]⟩
def b5n:ByteArray:=⟨#[83,80,67,65]⟩
def b8z:ByteArray:=⟨#[83,80,82]⟩
def b8s:ByteArray:=⟨#[80]⟩
def c57:ByteArray:=⟨#[80,82]⟩
def a4f:ByteArray:=⟨#[48,49,50,51,52,53,54,55,56,57]⟩
def a9z:ByteArray:=⟨#[46]⟩
def b5j:ByteArray:=⟨#[102,114,111,109,32,64]⟩
def b0h:ByteArray:=⟨#[32,123,32,114,111,117,110,100,32]⟩
def b66:ByteArray:=⟨#[100,111,119,110,32,49,59,32]⟩
def c1u:ByteArray:=⟨#[99,114,101,100,105,116,32,118,111,108,117,110,116,97,114,121,59,32,99,114,101,100,105,116,32,117,110,101,109,112,108,111,121,101,100,32,108,105,109,105,116,32]⟩
def a4d:ByteArray:=⟨#[59,32]⟩
def c23:ByteArray:=⟨#[99,114,101,100,105,116,32,99,104,105,108,100,32,108,105,109,105,116,32]⟩
def c1a:ByteArray:=⟨#[99,114,101,100,105,116,32,114,101,115,105,100,101,110,99,101,59,32]⟩
def c1c:ByteArray:=⟨#[105,110,100,101,120,32,49,57,54,48,32,49,59,32,105,110,100,101,120,32,49,57,56,48,32]⟩
def c1i:ByteArray:=⟨#[59,32,105,110,100,101,120,32,49,57,57,53,32]⟩
def c1f:ByteArray:=⟨#[108,101,116,32,115,112,101,110,116,32,61,32,105,110,115,117,114,101,100,32,47,32]⟩
def c2b:ByteArray:=⟨#[100,59,32,108,101,116,32,112,97,114,116,32,61,32,109,105,110,40,115,112,101,110,116,32,42,32]⟩
def c29:ByteArray:=⟨#[44,32,48,46,56,48,41,59,32]⟩
def c1g:ByteArray:=⟨#[103,114,97,110,116,32,111,108,100,32,105,102,32,97,103,101,32,62,61,32]⟩
def c1t:ByteArray:=⟨#[32,97,110,100,32,105,110,115,117,114,101,100,32,62,61,32]⟩
def c1y:ByteArray:=⟨#[100,32,112,97,121,32,109,97,120,40,98,97,115,101,32,42,32,112,97,114,116,44,32]⟩
def c02:ByteArray:=⟨#[109,41,59,32]⟩
def c1k:ByteArray:=⟨#[103,114,97,110,116,32,100,105,115,97,98,105,108,105,116,121,32,105,102,32,105,110,115,117,114,101,100,32,62,61,32]⟩
def c2e:ByteArray:=⟨#[100,32,112,97,121,32,98,97,115,101,32,42,32]⟩
def c24:ByteArray:=⟨#[103,114,97,110,116,32,115,117,114,118,105,118,111,114,32,105,102,32,119,111,114,107,101,100,32,43,32,101,113,117,97,116,101,100,32,62,61,32,51,48,100,32,112,97,121,32,98,97,115,101,32,42,32,112,97,114,116,32,42,32,48,46,54,48,59,32]⟩
def c1n:ByteArray:=⟨#[103,114,97,110,116,32,102,97,109,105,108,121,32,105,102,32,105,110,115,117,114,101,100,32,62,61,32]⟩
def c4e:ByteArray:=⟨#[100,32,112,97,121,32]⟩
def c2a:ByteArray:=⟨#[109,32,42,32,99,104,105,108,100,114,101,110,59,32]⟩
def c1q:ByteArray:=⟨#[103,114,97,110,116,32,115,105,99,107,110,101,115,115,32,105,102,32,105,110,115,117,114,101,100,32,62,61,32]⟩
def c2f:ByteArray:=⟨#[100,32,112,97,121,32,98,101,115,116,40,51,41,32,47,32,49,50,32,42,32,48,46,55,48,59,32]⟩
def b0n:ByteArray:=⟨#[114,101,100,117,99,101,32,111,108,100,32,98,121,32]⟩
def b7s:ByteArray:=⟨#[114,101,100,117,99,101,32,100,105,115,97,98,105,108,105,116,121,32,98,121,32,105,102,32,97,103,101,32,60,32,54,48,32,116,104,101,110,32,48,46,53,48,32,101,108,115,101,32,49,59,32]⟩
def b29:ByteArray:=⟨#[125,32]⟩
def b62:ByteArray:=⟨#[104,97,108,102,32,53,59,32]⟩
def b96:ByteArray:=⟨#[117,112,32,49,59,32]⟩
def b4a:ByteArray:=⟨#[101,118,101,110,32,49,48,59,32]⟩
def b7y:ByteArray:=⟨#[97,108,98,97]⟩
def b7i:ByteArray:=⟨#[98,111,114,97]⟩
def b4r:ByteArray:=⟨#[99,101,100,97,114]⟩
def b5p:ByteArray:=⟨#[115,116,97,116,117,116,101,32]⟩
def b24:ByteArray:=⟨#[32,99,117,114,114,101,110,99,121,32]⟩
def c2x:ByteArray:=⟨#[32,123,32]⟩
def a7f:ByteArray:=⟨#[49,57,48,48,45,48,49,45,48,49]⟩
def a7o:ByteArray:=⟨#[49,57,57,54,45,48,55,45,48,49]⟩
def a7h:ByteArray:=⟨#[50,48,48,49,45,48,49,45,48,49]⟩
def a2w:ByteArray:=⟨#[125]⟩
def b6p:ByteArray:=⟨#[60,61]⟩
def a5w:ByteArray:=⟨#[62,61]⟩
def b6w:ByteArray:=⟨#[60,62]⟩
def c00:ByteArray:=⟨#[97,110,100]⟩
def b23:ByteArray:=⟨#[98,101,115,116]⟩
def c3o:ByteArray:=⟨#[98,121]⟩
def a2h:ByteArray:=⟨#[99,114,101,100,105,116]⟩
def a2l:ByteArray:=⟨#[99,117,114,114,101,110,99,121]⟩
def b5h:ByteArray:=⟨#[101,108,115,101]⟩
def b2t:ByteArray:=⟨#[102,108,111,111,114]⟩
def b5c:ByteArray:=⟨#[102,114,111,109]⟩
def a3z:ByteArray:=⟨#[103,114,97,110,116]⟩
def b1f:ByteArray:=⟨#[105,102]⟩
def a59:ByteArray:=⟨#[105,110,100,101,120]⟩
def b1r:ByteArray:=⟨#[108,101,116]⟩
def a94:ByteArray:=⟨#[108,105,109,105,116]⟩
def b6h:ByteArray:=⟨#[109,97,120]⟩
def b87:ByteArray:=⟨#[109,105,110]⟩
def b9u:ByteArray:=⟨#[110,111,116]⟩
def c72:ByteArray:=⟨#[111,114]⟩
def b33:ByteArray:=⟨#[112,97,121]⟩
def a4j:ByteArray:=⟨#[114,101,100,117,99,101]⟩
def b2d:ByteArray:=⟨#[114,111,117,110,100]⟩
def a3s:ByteArray:=⟨#[115,116,97,116,117,116,101]⟩
def c0b:ByteArray:=⟨#[116,104,101,110]⟩
def c77:ByteArray:=⟨#[0,1,2,2,3,3,3,3,4,4,4,4,4,4,4,4,5,5,5,5,5,5,5,5,5,5,5,5,5,5,5,5,6,6,6,6,6,6,6,6,6,6,6,6,6,6,6,6,6,6,6,6,6,6,6,6,6,6,6,6,6,6,6,6,7,7,7,7,7,7,7,7,7,7,7,7,7,7,7,7,7,7,7,7,7,7,7,7,7,7,7,7,7,7,7,7,7,7,7,7,7,7,7,7,7,7,7,7,7,7,7,7,7,7,7,7,7,7,7,7,7,7,7,7,7,7,7,7,8,8,8,8,8,8,8,8,8,8,8,8,8,8,8,8,8,8,8,8,8,8,8,8,8,8,8,8,8,8,8,8,8,8,8,8,8,8,8,8,8,8,8,8,8,8,8,8,8,8,8,8,8,8,8,8,8,8,8,8,8,8,8,8,8,8,8,8,8,8,8,8,8,8,8,8,8,8,8,8,8,8,8,8,8,8,8,8,8,8,8,8,8,8,8,8,8,8,8,8,8,8,8,8,8,8,8,8,8,8,8,8,8,8,8,8,8,8,8,8,8,8,8,8,8,8,8,8]⟩
def a6l:ByteArray:=⟨#[118,111,108,117,110,116,97,114,121]⟩
def b4f:ByteArray:=⟨#[115,101,114,118,105,99,101]⟩
def a93:ByteArray:=⟨#[117,110,101,109,112,108,111,121,101,100]⟩
def d0r:ByteArray:=⟨#[115,105,99,107]⟩
def b95:ByteArray:=⟨#[99,104,105,108,100]⟩
def b05:ByteArray:=⟨#[114,101,115,105,100,101,110,99,101]⟩
def c1e:ByteArray:=⟨#[111,108,100]⟩
def a5k:ByteArray:=⟨#[100,105,115,97,98,105,108,105,116,121]⟩
def b2g:ByteArray:=⟨#[115,117,114,118,105,118,111,114]⟩
def b6o:ByteArray:=⟨#[102,97,109,105,108,121]⟩
def b2m:ByteArray:=⟨#[115,105,99,107,110,101,115,115]⟩
def c45:ByteArray:=⟨#[100,111,119,110]⟩
def d2w:ByteArray:=⟨#[117,112]⟩
def c40:ByteArray:=⟨#[104,97,108,102]⟩
def c2q:ByteArray:=⟨#[101,118,101,110]⟩
def d17:ByteArray:=⟨#[43]⟩
def b93:ByteArray:=⟨#[45]⟩
def a8u:ByteArray:=⟨#[42]⟩
def c1b:ByteArray:=⟨#[47]⟩
def d2e:ByteArray:=⟨#[60]⟩
def b9a:ByteArray:=⟨#[61]⟩
def d6r:ByteArray:=⟨#[62]⟩
def a9f:ByteArray:=⟨#[40]⟩
def b1p:ByteArray:=⟨#[41]⟩
def c52:ByteArray:=⟨#[44]⟩
def a0k:ByteArray:=⟨#[59]⟩
def b50:ByteArray:=⟨#[123]⟩
def f1c:ByteArray:=⟨#[100]⟩
def f1t:ByteArray:=⟨#[109]⟩
def c27:ByteArray:=⟨#[97,103,101]⟩
def a4l:ByteArray:=⟨#[105,110,115,117,114,101,100]⟩
def a9v:ByteArray:=⟨#[98,97,115,101]⟩
def b6s:ByteArray:=⟨#[119,111,114,107,101,100]⟩
def b47:ByteArray:=⟨#[101,113,117,97,116,101,100]⟩
def c7b:ByteArray:=⟨#[114,97,105,115,105,110,103]⟩
def d4x:ByteArray:=⟨#[114,101,115,105,100,101,110,116]⟩
def d82:ByteArray:=⟨#[121,101,97,114]⟩
def b2a:ByteArray:=⟨#[99,104,105,108,100,114,101,110]⟩
def g1z:ByteArray:=⟨#[83]⟩
def g33:ByteArray:=⟨#[84]⟩
def g0s:ByteArray:=⟨#[72]⟩
def g2r:ByteArray:=⟨#[67]⟩
def g3c:ByteArray:=⟨#[65]⟩
def g11:ByteArray:=⟨#[82]⟩
def b4j (a b:List Int):Option Int:=some (g1h (a.map fun x=>x) (b.map fun x=>x))
def a6n (s:ByteArray) (c:Int):Option Int:=some (f7f s c)
def b6 (a0:Int) (a1:Int):Option Int:=
 (b5l a0 a1).bind fun v1=>
 if (decide (v1<0)) then
 some (i64 (v1+a1))
 else
 some v1
def d7 (a0:List Int) (a1:Int):Option Int:=
 if ((a0.length:Int)==0) then
 some 0
 else
 (b6 a1 (a0.length:Int)).bind fun v1=>
 (c8 a0 v1).bind fun v2=>
 some v2
def b3f (a0:List Int) (r2:((List api_Fact)×Int) -> Option (List api_Fact)) (v1:(List api_Fact)×Int):Option (List api_Fact):=
 if (decide (v1.2 <= 2)) then
 (d7 a0 v1.2).bind fun v3=>
 (b6 v3 3).bind fun v4=>
 (d7 a0 (i64 (v1.2+2))).bind fun v5=>
 (b6 v5 3).bind fun v6=>
 (d7 a0 (i64 (v1.2+4))).bind fun v7=>
 (b6 v7 6000).bind fun v8=>
 (d7 a0 (i64 (v1.2+6))).bind fun v9=>
 (b6 v9 3000).bind fun v10=>
 (a9h 112 v1.1 [(⟨v4,i64 (900+v1.2),1,false,v1.2,11,0,(⟨i64 (13000+v10),i64 ((i64 (13000+v10))+1)⟩:Span),0,0,0,0,0⟩:api_Fact)]).bind fun v11=>
 (a9h 112 v11 [(⟨v4,i64 (910+v1.2),1,false,v1.2,5,v4,(⟨20000,60000⟩:Span),0,0,0,0,0⟩:api_Fact)]).bind fun v12=>
 (d7 a0 (i64 (v1.2+8))).bind fun v13=>
 (b6 v13 900000).bind fun v14=>
 (a9h 112 v12 [(⟨v4,i64 (920+v1.2),1,false,v1.2,1,v4,(⟨22000,i64 (27000+v8)⟩:Span),v4,100,i64 (1+v4),i64 (900000+v14),0⟩:api_Fact)]).bind fun v15=>
 (d7 a0 (i64 (v1.2+10))).bind fun v16=>
 (b6 v16 3000).bind fun v17=>
 (d7 a0 (i64 (v1.2+12))).bind fun v18=>
 (b6 v18 900000).bind fun v19=>
 (a9h 112 v15 [(⟨v6,i64 (930+v1.2),1,false,v1.2,1,v6,(⟨i64 (27000+v8),i64 (34400+v17)⟩:Span),v6,50,i64 (1+v6),i64 (700000+v19),0⟩:api_Fact)]).bind fun v20=>
 (a9h 112 v20 [(⟨v4,i64 (940+v1.2),1,false,v1.2,10,v4,(⟨32000,38500⟩:Span),0,0,0,0,3⟩:api_Fact)]).bind fun v21=>
 (a9h 112 v21 [(⟨v4,i64 (950+v1.2),1,false,v1.2,14,0,(⟨26000,50000⟩:Span),0,0,0,0,i64 (3-v1.2)⟩:api_Fact)]).bind fun v22=>
 r2 (v22,i64 (v1.2+1))
 else
 (d7 a0 15).bind fun v23=>
 (b6 v23 2000).bind fun v24=>
 (d7 a0 16).bind fun v25=>
 (b6 v25 2000).bind fun v26=>
 (a9h 112 v1.1 [(⟨0,961,1,false,1,13,0,(⟨i64 (34000+v24),i64 (36500+v26)⟩:Span),0,0,0,0,0⟩:api_Fact)]).bind fun v27=>
 (d7 a0 17).bind fun v28=>
 (b6 v28 900).bind fun v29=>
 (d7 a0 17).bind fun v30=>
 (b6 v30 900).bind fun v31=>
 (a9h 112 v27 [(⟨1,962,1,false,2,12,0,(⟨i64 (35600+v29),i64 (35601+v31)⟩:Span),0,0,0,0,0⟩:api_Fact)]).bind fun v32=>
 (d7 a0 18).bind fun v33=>
 (b6 v33 1200).bind fun v34=>
 (d7 a0 19).bind fun v35=>
 (b6 v35 300).bind fun v36=>
 (a9h 112 v32 [(⟨0,963,1,false,1,8,0,(⟨i64 (35000+v34),i64 (36250+v36)⟩:Span),0,0,0,0,0⟩:api_Fact)]).bind fun v37=>
 some v37
def a88 (a0:List Int):Option (List api_Fact):=
 d8 FU (b3f a0) ([],1)
def a7i (a0:Int):Option Int:=
 (b6 a0 4).bind fun v1=>
 if (v1==0) then
 (b55 a0 4).bind fun v2=>
 (b6 v2 9000).bind fun v3=>
 some (i64 (1+v3))
 else
 if (v1==1) then
 (b55 a0 4).bind fun v4=>
 (b6 v4 1200).bind fun v5=>
 some (i64 (1+v5))
 else
 if (v1==2) then
 (b55 a0 4).bind fun v6=>
 (b6 v6 120).bind fun v7=>
 some (i64 (1+v7))
 else
 (b55 a0 4).bind fun v8=>
 (b6 v8 12).bind fun v9=>
 some (i64 (1+v9))
def a5y (a0:Int):Option ByteArray:=
 (if (decide (a0<1)) then some true else some (decide (a0 >= ([a1v,a9n,a5x,a5x,b9e,a7z,b5n,a7z,a7z,a7z,b8z,b8s,b8s,b8s,c57].length:Int)))).bind fun v1=>
 if v1 then
 some a1v
 else
 (c8 [a1v,a9n,a5x,a5x,b9e,a7z,b5n,a7z,a7z,a7z,b8z,b8s,b8s,b8s,c57] a0).bind fun v2=>
 (c8 [a1v,a9n,a5x,a5x,b9e,a7z,b5n,a7z,a7z,a7z,b8z,b8s,b8s,b8s,c57] a0).bind fun v3=>
 some v3
def b4m (v10:ByteArray) (v9:pensionhand_Fact×api_Fact×api_Fact×Int×Int) (r12:(pensionhand_Fact×api_Fact×api_Fact×Int) -> Option api_Fact) (v11:pensionhand_Fact×api_Fact×api_Fact×Int):Option api_Fact:=
 if (decide (v11.2.2.2<(v10.size:Int))) then
 (b0v v10 v11.2.2.2).bind fun v13=>
 if (v13==83) then
 (b6 v11.1.State 3).bind fun v14=>
 r12 (v11.1,v11.2.1,(⟨v11.2.2.1.Issuer,v11.2.2.1.Number,v11.2.2.1.Version,v11.2.2.1.Withdrawn,v11.2.2.1.Person,v11.2.2.1.Kind,v14,v11.2.2.1.Span,v11.2.2.1.Seat,v11.2.2.1.Share,v11.2.2.1.Currency,v11.2.2.1.Amount,v11.2.2.1.Ref⟩:api_Fact),i64 (v11.2.2.2+1))
 else
 if (v13==80) then
 r12 (v11.1,v11.2.1,(⟨v11.2.2.1.Issuer,v11.2.2.1.Number,v11.2.2.1.Version,v11.2.2.1.Withdrawn,v11.2.2.1.Person,v11.2.2.1.Kind,v11.2.2.1.State,(⟨v9.2.2.2.1,v9.2.2.2.2⟩:Span),v11.2.2.1.Seat,v11.2.2.1.Share,v11.2.2.1.Currency,v11.2.2.1.Amount,v11.2.2.1.Ref⟩:api_Fact),i64 (v11.2.2.2+1))
 else
 if (v13==84) then
 (b6 v11.1.Seat 3).bind fun v15=>
 (if (v11.2.2.1.Kind==4) then some (v15==v11.2.2.1.State) else some false).bind fun v16=>
 if v16 then
 (b6 (i64 (v11.2.2.1.State+1)) 3).bind fun v17=>
 r12 (v11.1,v11.2.1,(⟨v11.2.2.1.Issuer,v11.2.2.1.Number,v11.2.2.1.Version,v11.2.2.1.Withdrawn,v11.2.2.1.Person,v11.2.2.1.Kind,v11.2.2.1.State,v11.2.2.1.Span,v17,v11.2.2.1.Share,v11.2.2.1.Currency,v11.2.2.1.Amount,v11.2.2.1.Ref⟩:api_Fact),i64 (v11.2.2.2+1))
 else
 r12 (v11.1,v11.2.1,(⟨v11.2.2.1.Issuer,v11.2.2.1.Number,v11.2.2.1.Version,v11.2.2.1.Withdrawn,v11.2.2.1.Person,v11.2.2.1.Kind,v11.2.2.1.State,v11.2.2.1.Span,v15,v11.2.2.1.Share,v11.2.2.1.Currency,v11.2.2.1.Amount,v11.2.2.1.Ref⟩:api_Fact),i64 (v11.2.2.2+1))
 else
 if (v13==72) then
 (b6 v11.1.Share 100).bind fun v18=>
 r12 (v11.1,v11.2.1,(⟨v11.2.2.1.Issuer,v11.2.2.1.Number,v11.2.2.1.Version,v11.2.2.1.Withdrawn,v11.2.2.1.Person,v11.2.2.1.Kind,v11.2.2.1.State,v11.2.2.1.Span,v11.2.2.1.Seat,i64 (1+v18),v11.2.2.1.Currency,v11.2.2.1.Amount,v11.2.2.1.Ref⟩:api_Fact),i64 (v11.2.2.2+1))
 else
 if (v13==67) then
 (b5l v11.1.State 3).bind fun v19=>
 (b6 (i64 (v11.1.Seat+v19)) 3).bind fun v20=>
 r12 (v11.1,v11.2.1,(⟨v11.2.2.1.Issuer,v11.2.2.1.Number,v11.2.2.1.Version,v11.2.2.1.Withdrawn,v11.2.2.1.Person,v11.2.2.1.Kind,v11.2.2.1.State,v11.2.2.1.Span,v11.2.2.1.Seat,v11.2.2.1.Share,i64 (1+v20),v11.2.2.1.Amount,v11.2.2.1.Ref⟩:api_Fact),i64 (v11.2.2.2+1))
 else
 if (v13==65) then
 (b6 v11.1.Amount 3000000).bind fun v21=>
 r12 (v11.1,v11.2.1,(⟨v11.2.2.1.Issuer,v11.2.2.1.Number,v11.2.2.1.Version,v11.2.2.1.Withdrawn,v11.2.2.1.Person,v11.2.2.1.Kind,v11.2.2.1.State,v11.2.2.1.Span,v11.2.2.1.Seat,v11.2.2.1.Share,v11.2.2.1.Currency,v21,v11.2.2.1.Ref⟩:api_Fact),i64 (v11.2.2.2+1))
 else
 (b6 v11.1.Ref 4).bind fun v22=>
 if ((i64 (1+v22))==v11.2.2.1.Person) then
 (b6 v11.2.2.1.Person 4).bind fun v23=>
 r12 (v11.1,v11.2.1,(⟨v11.2.2.1.Issuer,v11.2.2.1.Number,v11.2.2.1.Version,v11.2.2.1.Withdrawn,v11.2.2.1.Person,v11.2.2.1.Kind,v11.2.2.1.State,v11.2.2.1.Span,v11.2.2.1.Seat,v11.2.2.1.Share,v11.2.2.1.Currency,v11.2.2.1.Amount,i64 (1+v23)⟩:api_Fact),i64 (v11.2.2.2+1))
 else
 r12 (v11.1,v11.2.1,(⟨v11.2.2.1.Issuer,v11.2.2.1.Number,v11.2.2.1.Version,v11.2.2.1.Withdrawn,v11.2.2.1.Person,v11.2.2.1.Kind,v11.2.2.1.State,v11.2.2.1.Span,v11.2.2.1.Seat,v11.2.2.1.Share,v11.2.2.1.Currency,v11.2.2.1.Amount,i64 (1+v22)⟩:api_Fact),i64 (v11.2.2.2+1))
 else
 some v11.2.2.1
def a34 (v9:pensionhand_Fact×api_Fact×api_Fact×Int×Int):Option api_Fact:=
 (a5y v9.2.2.1.Kind).bind fun v10=>
 d8 FU (b4m v10 v9) (v9.1,v9.2.1,v9.2.2.1,0)
def a9c (a0:pensionhand_Fact):Option api_Fact:=
 (b6 a0.Issuer 3).bind fun v1=>
 (b6 a0.Number 20).bind fun v2=>
 (b6 a0.Version 3).bind fun v3=>
 (b6 a0.Person 4).bind fun v4=>
 (b6 a0.Kind 14).bind fun v5=>
 (b6 a0.From 16000).bind fun v6=>
 (a7i a0.Length).bind fun v7=>
 if ((i64 (1+v5))==11) then
 (b6 a0.From 5000).bind fun v8=>
 joinC a34 (a0,(⟨0,0,0,false,0,0,0,(⟨0,0⟩:Span),0,0,0,0,0⟩:api_Fact),(⟨v1,i64 (1+v2),i64 (1+v3),a0.Withdrawn,i64 (1+v4),i64 (1+v5),0,(⟨0,0⟩:Span),0,0,0,0,0⟩:api_Fact),i64 (12000+v8),i64 ((i64 (12000+v8))+1))
 else
 if ((i64 (1+v5))==12) then
 (b6 a0.From 6000).bind fun v24=>
 joinC a34 (a0,(⟨0,0,0,false,0,0,0,(⟨0,0⟩:Span),0,0,0,0,0⟩:api_Fact),(⟨v1,i64 (1+v2),i64 (1+v3),a0.Withdrawn,i64 (1+v4),i64 (1+v5),0,(⟨0,0⟩:Span),0,0,0,0,0⟩:api_Fact),i64 (34000+v24),i64 ((i64 (34000+v24))+1))
 else
 if ((i64 (1+v5))==8) then
 (b6 a0.From 4000).bind fun v25=>
 (b6 a0.Length 700).bind fun v26=>
 joinC a34 (a0,(⟨0,0,0,false,0,0,0,(⟨0,0⟩:Span),0,0,0,0,0⟩:api_Fact),(⟨v1,i64 (1+v2),i64 (1+v3),a0.Withdrawn,i64 (1+v4),i64 (1+v5),0,(⟨0,0⟩:Span),0,0,0,0,0⟩:api_Fact),i64 (34000+v25),i64 ((i64 ((i64 (34000+v25))+1))+v26))
 else
 joinC a34 (a0,(⟨0,0,0,false,0,0,0,(⟨0,0⟩:Span),0,0,0,0,0⟩:api_Fact),(⟨v1,i64 (1+v2),i64 (1+v3),a0.Withdrawn,i64 (1+v4),i64 (1+v5),0,(⟨0,0⟩:Span),0,0,0,0,0⟩:api_Fact),i64 (21900+v6),i64 ((i64 (21900+v6))+v7))
def b3b (a0:List pensionhand_Fact) (r2:((List api_Fact)×Int) -> Option (List api_Fact)) (v1:(List api_Fact)×Int):Option (List api_Fact):=
 (if (decide (v1.2<(a0.length:Int))) then some (decide (v1.2<12)) else some false).bind fun v3=>
 if v3 then
 (c8 a0 v1.2).bind fun v4=>
 (a9c v4).bind fun v5=>
 (a9h 112 v1.1 [v5]).bind fun v6=>
 r2 (v6,i64 (v1.2+1))
 else
 some v1.1
def a8f (a0:List pensionhand_Fact):Option (List api_Fact):=
 d8 FU (b3b a0) ([],0)
def a0w (r2:(Int×ByteArray) -> Option ByteArray) (v1:Int×ByteArray):Option ByteArray:=
 if (decide (v1.1>9)) then
 (b5l v1.1 10).bind fun v3=>
 (b5l v1.1 10).bind fun v4=>
 (b8d a4f v3 (i64 (v4+1))).bind fun v5=>
 (a4o v5 v1.2).bind fun v6=>
 (b55 v1.1 10).bind fun v7=>
 r2 (v7,v6)
 else
 (b8d a4f v1.1 (i64 (v1.1+1))).bind fun v8=>
 (a4o v8 v1.2).bind fun v9=>
 some v9
def k7 (a0:Int):Option ByteArray:=
 d8 FU a0w (a0,a1v)
def s7 (a0:Int):Option ByteArray:=
 (b55 a0 100).bind fun v1=>
 (k7 v1).bind fun v2=>
 (a4o v2 a9z).bind fun v3=>
 (b55 a0 10).bind fun v4=>
 (b5l v4 10).bind fun v5=>
 (k7 v5).bind fun v6=>
 (a4o v3 v6).bind fun v7=>
 (b5l a0 10).bind fun v8=>
 (k7 v8).bind fun v9=>
 (a4o v7 v9).bind fun v10=>
 some v10
def a1e (v104:(List Int)×Int×ByteArray):Option ByteArray:=
 (d7 v104.1 (i64 (v104.2.1+18))).bind fun v105=>
 (b6 v105 3).bind fun v106=>
 if (v106==0) then
 (a4o v104.2.2 b7s).bind fun v107=>
 (a4o v107 b29).bind fun v108=>
 some v108
 else
 (a4o v104.2.2 b29).bind fun v109=>
 some v109
def a1g (v78:(List Int)×Int×ByteArray):Option ByteArray:=
 (d7 v78.1 (i64 (v78.2.1+14))).bind fun v79=>
 (b6 v79 800).bind fun v80=>
 (k7 v80).bind fun v81=>
 (a4o c1n v81).bind fun v82=>
 (a4o v82 c4e).bind fun v83=>
 (d7 v78.1 (i64 (v78.2.1+15))).bind fun v84=>
 (b6 v84 300).bind fun v85=>
 (k7 (i64 (10+v85))).bind fun v86=>
 (a4o v83 v86).bind fun v87=>
 (a4o v87 c2a).bind fun v88=>
 (a4o v78.2.2 v88).bind fun v89=>
 (d7 v78.1 (i64 (v78.2.1+16))).bind fun v90=>
 (b6 v90 400).bind fun v91=>
 (k7 v91).bind fun v92=>
 (a4o c1q v92).bind fun v93=>
 (a4o v93 c2f).bind fun v94=>
 (a4o v89 v94).bind fun v95=>
 (d7 v78.1 (i64 (v78.2.1+17))).bind fun v96=>
 (b6 v96 3).bind fun v97=>
 if (decide (v97>0)) then
 (d7 v78.1 (i64 (v78.2.1+17))).bind fun v98=>
 (b6 v98 11).bind fun v99=>
 (s7 (i64 (10*v99))).bind fun v100=>
 (a4o b0n v100).bind fun v101=>
 (a4o v101 a4d).bind fun v102=>
 (a4o v95 v102).bind fun v103=>
 joinC a1e (v78.1,v78.2.1,v103)
 else
 joinC a1e (v78.1,v78.2.1,v95)
def a1f (v28:(List Int)×Int×ByteArray×ByteArray):Option ByteArray:=
 (d7 v28.1 (i64 (v28.2.1+5))).bind fun v29=>
 (b6 v29 300).bind fun v30=>
 (s7 (i64 (100+v30))).bind fun v31=>
 (a4o c1c v31).bind fun v32=>
 (a4o v32 c1i).bind fun v33=>
 (d7 v28.1 (i64 (v28.2.1+6))).bind fun v34=>
 (b6 v34 300).bind fun v35=>
 (s7 (i64 (400+v35))).bind fun v36=>
 (a4o v33 v36).bind fun v37=>
 (a4o v37 a4d).bind fun v38=>
 (a4o v28.2.2.2 v38).bind fun v39=>
 (a4o c1f v28.2.2.1).bind fun v40=>
 (a4o v40 c2b).bind fun v41=>
 (d7 v28.1 (i64 (v28.2.1+7))).bind fun v42=>
 (b6 v42 4).bind fun v43=>
 (s7 (i64 (1+v43))).bind fun v44=>
 (a4o v41 v44).bind fun v45=>
 (a4o v45 c29).bind fun v46=>
 (a4o v39 v46).bind fun v47=>
 (d7 v28.1 (i64 (v28.2.1+8))).bind fun v48=>
 (b6 v48 12).bind fun v49=>
 (k7 (i64 (50+v49))).bind fun v50=>
 (a4o c1g v50).bind fun v51=>
 (a4o v51 c1t).bind fun v52=>
 (d7 v28.1 (i64 (v28.2.1+9))).bind fun v53=>
 (b6 v53 6000).bind fun v54=>
 (k7 v54).bind fun v55=>
 (a4o v52 v55).bind fun v56=>
 (a4o v56 c1y).bind fun v57=>
 (d7 v28.1 (i64 (v28.2.1+10))).bind fun v58=>
 (b6 v58 900).bind fun v59=>
 (k7 v59).bind fun v60=>
 (a4o v57 v60).bind fun v61=>
 (a4o v61 c02).bind fun v62=>
 (a4o v47 v62).bind fun v63=>
 (d7 v28.1 (i64 (v28.2.1+11))).bind fun v64=>
 (b6 v64 2000).bind fun v65=>
 (k7 v65).bind fun v66=>
 (a4o c1k v66).bind fun v67=>
 (a4o v67 c2e).bind fun v68=>
 (d7 v28.1 (i64 (v28.2.1+12))).bind fun v69=>
 (b6 v69 60).bind fun v70=>
 (s7 (i64 (20+v70))).bind fun v71=>
 (a4o v68 v71).bind fun v72=>
 (a4o v72 a4d).bind fun v73=>
 (a4o v63 v73).bind fun v74=>
 (d7 v28.1 (i64 (v28.2.1+13))).bind fun v75=>
 (b6 v75 5).bind fun v76=>
 if (decide (v76>0)) then
 (a4o v74 c24).bind fun v77=>
 joinC a1g (v28.1,v28.2.1,v77)
 else
 joinC a1g (v28.1,v28.2.1,v74)
def a1d (v24:(List Int)×Int×ByteArray×ByteArray):Option ByteArray:=
 (d7 v24.1 (i64 (v24.2.1+4))).bind fun v25=>
 (b6 v25 4).bind fun v26=>
 if (v26==0) then
 (a4o v24.2.2.2 c1a).bind fun v27=>
 joinC a1f (v24.1,v24.2.1,v24.2.2.1,v27)
 else
 joinC a1f (v24.1,v24.2.1,v24.2.2.1,v24.2.2.2)
def a02 (v9:(List Int)×Int×ByteArray×ByteArray):Option ByteArray:=
 (d7 v9.1 (i64 (v9.2.1+2))).bind fun v10=>
 (b6 v10 900).bind fun v11=>
 (k7 (i64 (1+v11))).bind fun v12=>
 (a4o c1u v12).bind fun v13=>
 (a4o v13 a4d).bind fun v14=>
 (a4o v9.2.2.2 v14).bind fun v15=>
 (d7 v9.1 (i64 (v9.2.1+3))).bind fun v16=>
 (b6 v16 3).bind fun v17=>
 if (decide (v17>0)) then
 (d7 v9.1 (i64 (v9.2.1+3))).bind fun v18=>
 (b6 v18 1000).bind fun v19=>
 (k7 (i64 (100+v19))).bind fun v20=>
 (a4o c23 v20).bind fun v21=>
 (a4o v21 a4d).bind fun v22=>
 (a4o v15 v22).bind fun v23=>
 joinC a1d (v9.1,v9.2.1,v9.2.2.1,v23)
 else
 joinC a1d (v9.1,v9.2.1,v9.2.2.1,v15)
def a0z (a0:ByteArray) (a1:List Int) (a2:Int):Option ByteArray:=
 (d7 a1 a2).bind fun v1=>
 (b6 v1 90).bind fun v2=>
 (k7 (i64 (300+v2))).bind fun v3=>
 (a4o b5j a0).bind fun v4=>
 (a4o v4 b0h).bind fun v5=>
 (d7 a1 (i64 (a2+1))).bind fun v6=>
 (b6 v6 4).bind fun v7=>
 if (v7==0) then
 (a4o v5 b66).bind fun v8=>
 joinC a02 (a1,a2,v3,v8)
 else
 if (v7==1) then
 (a4o v5 b62).bind fun v110=>
 joinC a02 (a1,a2,v3,v110)
 else
 if (v7==2) then
 (a4o v5 b96).bind fun v111=>
 joinC a02 (a1,a2,v3,v111)
 else
 (a4o v5 b4a).bind fun v112=>
 joinC a02 (a1,a2,v3,v112)
def a33 (v14:Int×(List Int)×ByteArray):Option ByteArray:=
 (d7 v14.2.1 (i64 (37+v14.1))).bind fun v15=>
 (b6 v15 3).bind fun v16=>
 if (v16==0) then
 (a0z a7h v14.2.1 (i64 ((i64 (7*v14.1))+5))).bind fun v17=>
 (a4o v14.2.2 v17).bind fun v18=>
 (a4o v18 a2w).bind fun v19=>
 some v19
 else
 (a4o v14.2.2 a2w).bind fun v20=>
 some v20
def a14 (a0:Int) (a1:List Int):Option ByteArray:=
 (c8 (⟨[b7y,b7i,b4r],rfl⟩:Ar 3 ByteArray).l a0).bind fun v1=>
 (c8 (⟨[b7y,b7i,b4r],rfl⟩:Ar 3 ByteArray).l a0).bind fun v2=>
 (a4o b5p v2).bind fun v3=>
 (a4o v3 b24).bind fun v4=>
 (k7 (i64 (1+a0))).bind fun v5=>
 (a4o v4 v5).bind fun v6=>
 (a4o v6 c2x).bind fun v7=>
 (a0z a7f a1 (i64 (7*a0))).bind fun v8=>
 (a4o v7 v8).bind fun v9=>
 (d7 a1 (i64 (31+a0))).bind fun v10=>
 (b6 v10 3).bind fun v11=>
 if (decide (v11>0)) then
 (a0z a7o a1 (i64 ((i64 (7*a0))+3))).bind fun v12=>
 (a4o v9 v12).bind fun v13=>
 joinC a33 (a0,a1,v13)
 else
 joinC a33 (a0,a1,v9)
def a4s (a0:ByteArray) (r2:(Int×Bool) -> Option Int) (v1:Int×Bool):Option Int:=
 if (decide (v1.1<(a0.size:Int))) then
 (b0v a0 v1.1).bind fun v3=>
 if (v3==10) then
 r2 (i64 (v1.1+1),false)
 else
 if (v3==35) then
 r2 (i64 (v1.1+1),true)
 else
 (if (!v1.2) then some (v3 != 9) else some false).bind fun v4=>
 (if v4 then some (v3 != 13) else some false).bind fun v5=>
 (if v5 then some (v3 != 32) else some false).bind fun v6=>
 if v6 then
 some v1.1
 else
 r2 (i64 (v1.1+1),v1.2)
 else
 some v1.1
def a6u (a0:ByteArray) (a1:Int):Option Int:=
 d8 FU (a4s a0) (a1,false)
def a3m (a0:Int):Option Bool:=
 (if (decide (a0 >= 97)) then some (decide (a0 <= 122)) else some false).bind fun v1=>
 some v1
def a2v (a0:Int):Option Bool:=
 (if (decide (a0 >= 48)) then some (decide (a0 <= 57)) else some false).bind fun v1=>
 some v1
def a5h (a1:Int) (a0:ByteArray) (a2:Bool) (r2:Int -> Option Int) (v1:Int):Option Int:=
 (if (decide ((i64 (a1+v1))<(a0.size:Int))) then (b0v a0 (i64 (a1+v1))).bind fun v3=>
 (a3m v3).bind fun v4=>
 (if v4 then some true else (b0v a0 (i64 (a1+v1))).bind fun v5=>
 (a2v v5).bind fun v6=>
 some v6).bind fun v7=>
 (if v7 then some true else (b0v a0 (i64 (a1+v1))).bind fun v8=>
 some (v8==95)).bind fun v9=>
 (if v9 then some true else (if a2 then (b0v a0 (i64 (a1+v1))).bind fun v10=>
 some (v10==46) else some false).bind fun v11=>
 some v11).bind fun v12=>
 some v12 else some false).bind fun v13=>
 if v13 then
 r2 (i64 (v1+1))
 else
 some v1
def a4v (a0:ByteArray) (a1:Int) (a2:Bool):Option Int:=
 d8 FU (a5h a1 a0 a2) 0
def a42 (v11:Int×ByteArray×ByteArray) (r13:Int -> Option (ByteArray×ByteArray×Int×Bool)) (v12:Int):Option (ByteArray×ByteArray×Int×Bool):=
 if (decide (v12<(i64 ((v11.2.1.size:Int)+(v11.2.2.size:Int))))) then
 (a4o v11.2.1 v11.2.2).bind fun v14=>
 (b0v v14 v12).bind fun v15=>
 (a2v v15).bind fun v16=>
 if (!v16) then
 some (a1v,a1v,0,false)
 else
 r13 (i64 (v12+1))
 else
 (if (decide ((v11.2.1.size:Int)<1)) then some true else some (decide ((v11.2.1.size:Int)>9))).bind fun v17=>
 (if v17 then some true else (if (decide ((v11.2.1.size:Int)>1)) then (b0v v11.2.1 0).bind fun v18=>
 some (v18==48) else some false).bind fun v19=>
 some v19).bind fun v20=>
 if v20 then
 some (a1v,a1v,0,false)
 else
 some (v11.2.1,v11.2.2,v11.1,true)
def b3i (v11:Int×ByteArray×ByteArray):Option (ByteArray×ByteArray×Int×Bool):=
 d8 FU (a42 v11) 0
def a43 (v4:ByteArray×Int) (r6:(Int×Int) -> Option (ByteArray×ByteArray×Int×Bool)) (v5:Int×Int):Option (ByteArray×ByteArray×Int×Bool):=
 if (decide (v5.2 >= 0)) then
 (b0v v4.1 v5.2).bind fun v7=>
 if (v7==46) then
 r6 (v5.2,i64 (v5.2-1))
 else
 r6 (v5.1,i64 (v5.2-1))
 else
 (b8d v4.1 0 v5.1).bind fun v8=>
 if (decide (v5.1<(v4.1.size:Int))) then
 (b8d v4.1 (i64 (v5.1+1)) (v4.1.size:Int)).bind fun v9=>
 (if (decide ((v9.size:Int)<1)) then some true else some (decide ((v9.size:Int)>4))).bind fun v10=>
 if v10 then
 some (a1v,a1v,0,false)
 else
 joinC b3i (v4.2,v8,v9)
 else
 joinC b3i (v4.2,v8,a1v)
def a41 (v4:ByteArray×Int):Option (ByteArray×ByteArray×Int×Bool):=
 d8 FU (a43 v4) ((v4.1.size:Int),i64 ((v4.1.size:Int)-1))
def a0m (a0:ByteArray):Option (ByteArray×ByteArray×Int×Bool):=
 (if (decide ((a0.size:Int)>0)) then (b0v a0 (i64 ((a0.size:Int)-1))).bind fun v1=>
 some (v1==100) else some false).bind fun v2=>
 if v2 then
 (b8d a0 0 (i64 ((a0.size:Int)-1))).bind fun v3=>
 joinC a41 (v3,3)
 else
 (if (decide ((a0.size:Int)>0)) then (b0v a0 (i64 ((a0.size:Int)-1))).bind fun v21=>
 some (v21==109) else some false).bind fun v22=>
 if v22 then
 (b8d a0 0 (i64 ((a0.size:Int)-1))).bind fun v23=>
 joinC a41 (v23,4)
 else
 joinC a41 (a0,2)
def c0r (a0:ByteArray) (r2:(Int×Int) -> Option (Int×Bool)) (v1:Int×Int):Option (Int×Bool):=
 if (decide (v1.2<(a0.size:Int))) then
 (b0v a0 v1.2).bind fun v3=>
 (if (decide (v3<48)) then some true else (b0v a0 v1.2).bind fun v4=>
 some (decide (v4>57))).bind fun v5=>
 if v5 then
 some (0,false)
 else
 (b0v a0 v1.2).bind fun v6=>
 r2 (i64 ((i64 (v1.1*10))+(i64 (IntKind.u8.wrap (v6-48)))),i64 (v1.2+1))
 else
 some (v1.1,decide ((a0.size:Int)>0))
def a85 (a0:ByteArray):Option (Int×Bool):=
 d8 FU (c0r a0) (0,0)
def b8f (a0:Int):Option Bool:=
 (b5l a0 4).bind fun v1=>
 (if (v1==0) then (b5l a0 100).bind fun v2=>
 (if (v2 != 0) then some true else (b5l a0 400).bind fun v3=>
 some (v3==0)).bind fun v4=>
 some v4 else some false).bind fun v5=>
 some v5
def b06 (a0:Int) (a1:Int):Option Int:=
 if (a1==2) then
 (b8f a0).bind fun v1=>
 if v1 then
 some 29
 else
 some 28
 else
 if (a1==4) then
 if (a1==4) then
 some 30
 else
 some 31
 else
 if (a1==6) then
 if (a1==6) then
 some 30
 else
 some 31
 else
 if (a1==9) then
 if (a1==9) then
 some 30
 else
 some 31
 else
 if (a1==11) then
 some 30
 else
 some 31
def c0p (a0:Int) (r2:(Int×Int) -> Option Int) (v1:Int×Int):Option Int:=
 if (decide (v1.2<a0)) then
 (b55 v1.2 12).bind fun v3=>
 (b5l v1.2 12).bind fun v4=>
 (b06 (i64 (1900+v3)) (i64 (v4+1))).bind fun v5=>
 r2 (i64 (v1.1+v5),i64 (v1.2+1))
 else
 some v1.1
def b7a (a0:Int):Option Int:=
 d8 FU (c0p a0) (0,0)
def b9o (a0:Int) (a1:Int) (a2:Int):Option (Int×Bool):=
 (if (decide (a0<1900)) then some true else some (decide (a0>2099))).bind fun v1=>
 (if v1 then some true else some (decide (a1<1))).bind fun v2=>
 (if v2 then some true else some (decide (a1>12))).bind fun v3=>
 (if v3 then some true else some (decide (a2<1))).bind fun v4=>
 (if v4 then some true else (b06 a0 a1).bind fun v5=>
 some (decide (a2>v5))).bind fun v6=>
 if v6 then
 some (0,false)
 else
 (b7a (i64 ((i64 ((i64 ((i64 (a0-1900))*12))+a1))-1))).bind fun v7=>
 some (i64 ((i64 (v7+a2))-1),true)
def a2e (a0:ByteArray):Option (Int×Bool):=
 (if ((a0.size:Int) != 10) then some true else (b0v a0 4).bind fun v1=>
 some (v1 != 45)).bind fun v2=>
 (if v2 then some true else (b0v a0 7).bind fun v3=>
 some (v3 != 45)).bind fun v4=>
 if v4 then
 some (0,false)
 else
 (b8d a0 0 4).bind fun v5=>
 (a85 v5).bind fun v6=>
 (b8d a0 5 7).bind fun v7=>
 (a85 v7).bind fun v8=>
 (b8d a0 8 (a0.size:Int)).bind fun v9=>
 (a85 v9).bind fun v10=>
 (if (!v6.2) then some true else some (!v8.2)).bind fun v11=>
 (if v11 then some true else some (!v10.2)).bind fun v12=>
 if v12 then
 some (0,false)
 else
 (b9o v6.1 v8.1 v10.1).bind fun v13=>
 some (v13.1,v13.2)
def a6i (v4:ByteArray×Int):Option Int:=
 (b0v v4.1 v4.2).bind fun v5=>
 if (v5==60) then
 if (v5==60) then
 some 1
 else
 some 0
 else
 if (v5==62) then
 if (v5==62) then
 some 1
 else
 some 0
 else
 if (v5==61) then
 if (v5==61) then
 some 1
 else
 some 0
 else
 if (v5==43) then
 if (v5==43) then
 some 1
 else
 some 0
 else
 if (v5==45) then
 if (v5==45) then
 some 1
 else
 some 0
 else
 if (v5==42) then
 if (v5==42) then
 some 1
 else
 some 0
 else
 if (v5==47) then
 if (v5==47) then
 some 1
 else
 some 0
 else
 if (v5==40) then
 if (v5==40) then
 some 1
 else
 some 0
 else
 if (v5==41) then
 if (v5==41) then
 some 1
 else
 some 0
 else
 if (v5==123) then
 if (v5==123) then
 some 1
 else
 some 0
 else
 if (v5==125) then
 if (v5==125) then
 some 1
 else
 some 0
 else
 if (v5==44) then
 if (v5==44) then
 some 1
 else
 some 0
 else
 if (v5==59) then
 some 1
 else
 some 0
def a3o (a0:ByteArray) (a1:Int):Option Int:=
 if (decide ((i64 (a1+1))<(a0.size:Int))) then
 (b8d a0 a1 (i64 (a1+2))).bind fun v1=>
 (if (v1.toList==b6p.toList) then some true else some (v1.toList==a5w.toList)).bind fun v2=>
 (if v2 then some true else some (v1.toList==b6w.toList)).bind fun v3=>
 if v3 then
 some 2
 else
 joinC a6i (a0,a1)
 else
 joinC a6i (a0,a1)
def s8 (v6:ByteArray×Int×Token×Int×Int×Bool):Option (Token×Int×Int):=
 if (!v6.2.2.2.2.2) then
 some ((⟨0,a1v,0⟩:Token),v6.2.1,4)
 else
 (b8d v6.1 v6.2.1 (i64 (v6.2.1+v6.2.2.2.2.1))).bind fun v7=>
 some ((⟨v6.2.2.2.1,v7,v6.2.1⟩:Token),i64 (v6.2.1+v6.2.2.2.2.1),0)
def a56 (a0:ByteArray) (a1:Int):Option (Token×Int×Int):=
 (if (decide (a1<0)) then some true else some (decide (a1>(a0.size:Int)))).bind fun v1=>
 if v1 then
 some ((⟨0,a1v,0⟩:Token),0,1)
 else
 (a6u a0 a1).bind fun v2=>
 if (v2==(a0.size:Int)) then
 some ((⟨0,a1v,v2⟩:Token),v2,0)
 else
 (b0v a0 v2).bind fun v3=>
 (a3m v3).bind fun v4=>
 if v4 then
 (a4v a0 v2 false).bind fun v5=>
 joinC s8 (a0,v2,(⟨0,a1v,0⟩:Token),1,v5,decide (v5 <= 12))
 else
 (b0v a0 v2).bind fun v8=>
 (a2v v8).bind fun v9=>
 if v9 then
 (a4v a0 v2 true).bind fun v10=>
 (b8d a0 v2 (i64 (v2+v10))).bind fun v11=>
 (a0m v11).bind fun v12=>
 joinC s8 (a0,v2,(⟨0,a1v,0⟩:Token),2,v10,v12.2.2.2)
 else
 (b0v a0 v2).bind fun v13=>
 if (v13==64) then
 if (decide ((i64 ((a0.size:Int)-v2)) >= 11)) then
 (b8d a0 (i64 (v2+1)) (i64 (v2+11))).bind fun v14=>
 (a2e v14).bind fun v15=>
 joinC s8 (a0,v2,(⟨0,a1v,0⟩:Token),3,11,v15.2)
 else
 joinC s8 (a0,v2,(⟨0,a1v,0⟩:Token),3,11,decide ((i64 ((a0.size:Int)-v2)) >= 11))
 else
 (a3o a0 v2).bind fun v16=>
 joinC s8 (a0,v2,(⟨0,a1v,0⟩:Token),4,v16,decide (v16>0))
def a5c (a0:ByteArray) (r2:((List Token)×Int) -> Option ((List Token)×Int×Int)) (v1:(List Token)×Int):Option ((List Token)×Int×Int):=
 (a56 a0 v1.2).bind fun v3=>
 if (v3.2.2 != 0) then
 some ([],v3.2.1,v3.2.2)
 else
 if (v3.1.Kind==0) then
 some (v1.1,0,0)
 else
 (a9h 32 v1.1 [v3.1]).bind fun v4=>
 r2 (v4,v3.2.1)
def a7v (a0:ByteArray):Option ((List Token)×Int×Int):=
 if (decide ((a0.size:Int)>8000)) then
 some ([],0,7)
 else
 d8 FU (a5c a0) ([],0)
def b1q (a0:ByteArray):Option ((Option pensionref5_reader)×Int×Int):=
 (a7v a0).bind fun v1=>
 if (v1.2.2 != 0) then
 some (none,v1.2.1,v1.2.2)
 else
 some (some (⟨v1.1,0,(a0.size:Int),false⟩:pensionref5_reader),0,0)
def a09 (a0:pensionref5_reader) (a1:ByteArray):Option Bool:=
 (if (!a0.bad) then some (decide (a0.at_<(a0.l.length:Int))) else some false).bind fun v1=>
 (if v1 then (c8 a0.l a0.at_).bind fun v2=>
 some (v2.Text.toList==a1.toList) else some false).bind fun v3=>
 some v3
def g8 (a0:pensionref5_reader) (a1:ByteArray):Option (Bool×pensionref5_reader):=
 (a09 a0 a1).bind fun v1=>
 if (!v1) then
 some (false,a0)
 else
 some (true,(⟨a0.l,i64 (a0.at_+1),a0.end_,a0.bad⟩:pensionref5_reader))
def q9 (a0:pensionref5_reader):Option pensionref5_reader:=
 some (⟨a0.l,a0.at_,a0.end_,true⟩:pensionref5_reader)
def c6 (a0:pensionref5_reader) (a1:ByteArray):Option pensionref5_reader:=
 (g8 a0 a1).bind fun v1=>
 if (!v1.1) then
 (q9 v1.2).bind fun v2=>
 some v2
 else
 some v1.2
def u5 (a0:pensionref5_reader) (a1:Int):Option Bool:=
 (if (!a0.bad) then some (decide (a0.at_<(a0.l.length:Int))) else some false).bind fun v1=>
 (if v1 then (c8 a0.l a0.at_).bind fun v2=>
 some (v2.Kind==a1) else some false).bind fun v3=>
 some v3
def c01 (a0:ByteArray) (r2:Int -> Option Bool) (v1:Int):Option Bool:=
 if (decide (v1<(a0.size:Int))) then
 (b0v a0 v1).bind fun v3=>
 (a3m v3).bind fun v4=>
 (if (!v4) then (if (v1==0) then some true else (b0v a0 v1).bind fun v5=>
 (a2v v5).bind fun v6=>
 (if (!v6) then (b0v a0 v1).bind fun v7=>
 some (v7 != 95) else some false).bind fun v8=>
 some v8).bind fun v9=>
 some v9 else some false).bind fun v10=>
 if v10 then
 some false
 else
 r2 (i64 (v1+1))
 else
 (if (decide ((a0.size:Int) >= 1)) then some (decide ((a0.size:Int) <= 12)) else some false).bind fun v11=>
 some v11
def b5d (a0:ByteArray):Option Bool:=
 d8 FU (c01 a0) 0
def b48 (a0:ByteArray):Option Bool:=
 if (a0.toList==c00.toList) then
 if (a0.toList==c00.toList) then
 some true
 else
 some false
 else
 if (a0.toList==b23.toList) then
 if (a0.toList==b23.toList) then
 some true
 else
 some false
 else
 if (a0.toList==c3o.toList) then
 if (a0.toList==c3o.toList) then
 some true
 else
 some false
 else
 if (a0.toList==a2h.toList) then
 if (a0.toList==a2h.toList) then
 some true
 else
 some false
 else
 if (a0.toList==a2l.toList) then
 if (a0.toList==a2l.toList) then
 some true
 else
 some false
 else
 if (a0.toList==b5h.toList) then
 if (a0.toList==b5h.toList) then
 some true
 else
 some false
 else
 if (a0.toList==b2t.toList) then
 if (a0.toList==b2t.toList) then
 some true
 else
 some false
 else
 if (a0.toList==b5c.toList) then
 if (a0.toList==b5c.toList) then
 some true
 else
 some false
 else
 if (a0.toList==a3z.toList) then
 if (a0.toList==a3z.toList) then
 some true
 else
 some false
 else
 if (a0.toList==b1f.toList) then
 if (a0.toList==b1f.toList) then
 some true
 else
 some false
 else
 if (a0.toList==a59.toList) then
 if (a0.toList==a59.toList) then
 some true
 else
 some false
 else
 if (a0.toList==b1r.toList) then
 if (a0.toList==b1r.toList) then
 some true
 else
 some false
 else
 if (a0.toList==a94.toList) then
 if (a0.toList==a94.toList) then
 some true
 else
 some false
 else
 if (a0.toList==b6h.toList) then
 if (a0.toList==b6h.toList) then
 some true
 else
 some false
 else
 if (a0.toList==b87.toList) then
 if (a0.toList==b87.toList) then
 some true
 else
 some false
 else
 if (a0.toList==b9u.toList) then
 if (a0.toList==b9u.toList) then
 some true
 else
 some false
 else
 if (a0.toList==c72.toList) then
 if (a0.toList==c72.toList) then
 some true
 else
 some false
 else
 if (a0.toList==b33.toList) then
 if (a0.toList==b33.toList) then
 some true
 else
 some false
 else
 if (a0.toList==a4j.toList) then
 if (a0.toList==a4j.toList) then
 some true
 else
 some false
 else
 if (a0.toList==b2d.toList) then
 if (a0.toList==b2d.toList) then
 some true
 else
 some false
 else
 if (a0.toList==a3s.toList) then
 if (a0.toList==a3s.toList) then
 some true
 else
 some false
 else
 if (a0.toList==c0b.toList) then
 some true
 else
 some false
def u9 (a0:ByteArray):Option Bool:=
 (b5d a0).bind fun v1=>
 (if v1 then (b48 a0).bind fun v2=>
 some (!v2) else some false).bind fun v3=>
 some v3
def a1a (a0:pensionref5_reader):Option (ByteArray×pensionref5_reader):=
 (u5 a0 1).bind fun v1=>
 (if (!v1) then some true else (c8 a0.l a0.at_).bind fun v2=>
 (u9 v2.Text).bind fun v3=>
 some (!v3)).bind fun v4=>
 if v4 then
 (q9 a0).bind fun v5=>
 some (a1v,v5)
 else
 (c8 a0.l (i64 ((i64 (a0.at_+1))-1))).bind fun v6=>
 some (v6.Text,(⟨a0.l,i64 (a0.at_+1),a0.end_,a0.bad⟩:pensionref5_reader))
def a2k (a0:Int):Option Int:=
 if (decide (a0<0)) then
 some (u64 ((u64 (i64 (-(i64 (a0+1)))))+1))
 else
 some (u64 (a0))
def c3i (v4:Int×Int):Option Int:=
 if (decide (v4.1 >= 256)) then
 (e0t .u64 v4.1 8).bind fun v5=>
 (b0v c77 (IntKind.u8.wrap (v5))).bind fun v6=>
 some (i64 ((i64 (v4.2+8))+(i64 (v6))))
 else
 (b0v c77 (IntKind.u8.wrap (v4.1))).bind fun v7=>
 some (i64 (v4.2+(i64 (v7))))
def c3w (v2:Int×Int):Option Int:=
 if (decide (v2.1 >= 65536)) then
 (e0t .u64 v2.1 16).bind fun v3=>
 joinC c3i (v3,i64 (v2.2+16))
 else
 joinC c3i (v2.1,v2.2)
def c4z (a0:Int):Option Int:=
 if (decide (a0 >= 4294967296)) then
 (e0t .u64 a0 32).bind fun v1=>
 joinC c3w (v1,32)
 else
 joinC c3w (a0,0)
def b4v (a0:Int):Option Int:=
 (c4z a0).bind fun v1=>
 some (i64 (64-v1))
def c3f (v21:Int×Int×Int×Int×Int×Int):Option (Int×Int):=
 (e0t .u64 (u64 ((u64 ((u64 (v21.2.2.2.2.1*4294967296))+v21.2.2.1))-(u64 (v21.2.2.2.2.2*v21.1)))) v21.2.1).bind fun v22=>
 some (u64 ((u64 (v21.2.2.2.1*4294967296))+v21.2.2.2.2.2),v22)
def d1i (v16:Int×Int×Int×Int×Int×Int×Int×Int) (r19:(Int×Int) -> Option (Int×Int)) (v18:Int×Int):Option (Int×Int):=
 (if (decide (v18.2 >= 4294967296)) then some true else some (decide ((u64 (v18.2*v16.2.2.2.1))>(u64 ((u64 (4294967296*v18.1))+v16.2.2.2.2.2.2.1))))).bind fun v20=>
 if v20 then
 if (decide ((u64 (v18.1+v16.2.2.1)) >= 4294967296)) then
 joinC c3f (v16.1,v16.2.1,v16.2.2.2.2.2.2.1,v16.2.2.2.2.2.2.2,u64 ((u64 ((u64 (v16.2.2.2.2.1*4294967296))+v16.2.2.2.2.2.1))-(u64 (v16.2.2.2.2.2.2.2*v16.1))),u64 (v18.2-1))
 else
 r19 (u64 (v18.1+v16.2.2.1),u64 (v18.2-1))
 else
 joinC c3f (v16.1,v16.2.1,v16.2.2.2.2.2.2.1,v16.2.2.2.2.2.2.2,u64 ((u64 ((u64 (v16.2.2.2.2.1*4294967296))+v16.2.2.2.2.2.1))-(u64 (v16.2.2.2.2.2.2.2*v16.1))),v18.2)
def c30 (v16:Int×Int×Int×Int×Int×Int×Int×Int):Option (Int×Int):=
 (if v16.2.2.1=0 then none else some (u64 (Int.tdiv (u64 ((u64 ((u64 (v16.2.2.2.2.1*4294967296))+v16.2.2.2.2.2.1))-(u64 (v16.2.2.2.2.2.2.2*v16.1)))) v16.2.2.1))).bind fun v17=>
 d8 FU (d1i v16) (u64 ((u64 ((u64 ((u64 (v16.2.2.2.2.1*4294967296))+v16.2.2.2.2.2.1))-(u64 (v16.2.2.2.2.2.2.2*v16.1))))-(u64 (v17*v16.2.2.1))),v17)
def d1p (v6:Int) (v11:Int) (v7:Int) (v5:Int) (v8:Int) (v9:Int) (v10:Int) (r14:(Int×Int) -> Option (Int×Int)) (v13:Int×Int):Option (Int×Int):=
 (if (decide (v13.1 >= 4294967296)) then some true else some (decide ((u64 (v13.1*(e38 .u64 v6 4294967295)))>(u64 ((u64 (4294967296*v13.2))+v11))))).bind fun v15=>
 if v15 then
 if (decide ((u64 (v13.2+v7)) >= 4294967296)) then
 joinC c30 (v6,u64 (v5),v7,e38 .u64 v6 4294967295,orK .u64 v8 v9,v11,e38 .u64 v10 4294967295,u64 (v13.1-1))
 else
 r14 (u64 (v13.1-1),u64 (v13.2+v7))
 else
 joinC c30 (v6,u64 (v5),v7,e38 .u64 v6 4294967295,orK .u64 v8 v9,v11,e38 .u64 v10 4294967295,v13.1)
def c2m (v2:Int×Int×Int):Option (Int×Int):=
 if (v2.1==0) then
 (if v2.2.2=0 then none else some (u64 (Int.tdiv v2.2.1 v2.2.2))).bind fun v3=>
 (b5l v2.2.1 v2.2.2).bind fun v4=>
 some (v3,v4)
 else
 (b4v v2.2.2).bind fun v5=>
 (e9r .u64 v2.2.2 (u64 (v5))).bind fun v6=>
 (e0t .u64 v6 32).bind fun v7=>
 (e9r .u64 v2.1 (u64 (v5))).bind fun v8=>
 (e0t .u64 v2.2.1 (u64 (64-(u64 (v5))))).bind fun v9=>
 (e9r .u64 v2.2.1 (u64 (v5))).bind fun v10=>
 (e0t .u64 v10 32).bind fun v11=>
 (if v7=0 then none else some (u64 (Int.tdiv (orK .u64 v8 v9) v7))).bind fun v12=>
 d8 FU (d1p v6 v11 v7 v5 v8 v9 v10) (v12,u64 ((orK .u64 v8 v9)-(u64 (v12*v7))))
def c32 (v1:Int×Int×Int):Option (Int×Int):=
 if (decide (v1.2.2 <= v1.1)) then
 none
 else
 joinC c2m (v1.1,v1.2.1,v1.2.2)
def c0i (a0:Int) (a1:Int) (a2:Int):Option (Int×Int):=
 if (a2==0) then
 none
 else
 joinC c32 (a0,a1,a2)
def a3i (a0:pensionref1_wide) (a1:Int):Option (pensionref1_wide×Int):=
 (b5l a0.hi a1).bind fun v1=>
 (c0i v1 a0.lo a1).bind fun v2=>
 (if a1=0 then none else some (u64 (Int.tdiv a0.hi a1))).bind fun v3=>
 some ((⟨v3,v2.1⟩:pensionref1_wide),v2.2)
def b0e (r2:(Int×Int) -> Option Int) (v1:Int×Int):Option Int:=
 if (v1.2 != 0) then
 (b5l v1.1 v1.2).bind fun v3=>
 r2 (v1.2,v3)
 else
 some v1.1
def a2b (a0:Int) (a1:Int):Option Int:=
 d8 FU b0e (a0,a1)
def b09 (a0:Bool) (a1:pensionref1_wide) (a2:Int):Option (Fraction×Int):=
 (a3i a1 a2).bind fun v1=>
 (a2b a2 v1.2).bind fun v2=>
 (a3i a1 v2).bind fun v3=>
 (if v2=0 then none else some (u64 (Int.tdiv a2 v2))).bind fun v4=>
 (if (v3.1.hi != 0) then some true else some (decide (v3.1.lo>1000000000000000))).bind fun v5=>
 (if v5 then some true else some (decide (v4>1000000000))).bind fun v6=>
 if v6 then
 some ((⟨0,0⟩:Fraction),2)
 else
 if a0 then
 some ((⟨i64 (-(i64 (v3.1.lo))),i64 (v4)⟩:Fraction),0)
 else
 some ((⟨i64 (v3.1.lo),i64 (v4)⟩:Fraction),0)
def a3k (a0:Int) (a1:Int):Option (Fraction×Int):=
 if (a1==0) then
 some ((⟨0,0⟩:Fraction),3)
 else
 (a2k a0).bind fun v1=>
 (a2k a1).bind fun v2=>
 (b09 ((decide (a0<0)) != (decide (a1<0))) (⟨0,v1⟩:pensionref1_wide) v2).bind fun v3=>
 some (v3.1,v3.2)
def a2t (v1:ByteArray×ByteArray×Int×Bool) (r3:(Fraction×Int×Int×Int) -> Option (Fraction×Int×Bool)) (v2:Fraction×Int×Int×Int):Option (Fraction×Int×Bool):=
 if (decide (v2.2.2.2<(i64 ((v1.1.size:Int)+(v1.2.1.size:Int))))) then
 (a4o v1.1 v1.2.1).bind fun v4=>
 (b0v v4 v2.2.2.2).bind fun v5=>
 if (decide (v2.2.2.2 >= (v1.1.size:Int))) then
 r3 (v2.1,i64 ((i64 (v2.2.1*10))+(i64 (IntKind.u8.wrap (v5-48)))),i64 (v2.2.2.1*10),i64 (v2.2.2.2+1))
 else
 r3 (v2.1,i64 ((i64 (v2.2.1*10))+(i64 (IntKind.u8.wrap (v5-48)))),v2.2.2.1,i64 (v2.2.2.2+1))
 else
 (a3k v2.2.1 v2.2.2.1).bind fun v6=>
 some (v6.1,v1.2.2.1,true)
def w6 (a0:ByteArray):Option (Fraction×Int×Bool):=
 (a0m a0).bind fun v1=>
 if (!v1.2.2.2) then
 some ((⟨0,0⟩:Fraction),0,false)
 else
 d8 FU (a2t v1) ((⟨0,0⟩:Fraction),0,1,0)
def w8 (a0:pensionref5_reader) (a1:Int) (a2:Int):Option (Int×pensionref5_reader):=
 (u5 a0 2).bind fun v1=>
 if v1 then
 (c8 a0.l a0.at_).bind fun v2=>
 (w6 v2.Text).bind fun v3=>
 (if (v3.2.1==2) then some (v3.1.Den==1) else some false).bind fun v4=>
 (if v4 then some (decide (v3.1.Num >= a1)) else some false).bind fun v5=>
 (if v5 then some (decide (v3.1.Num <= a2)) else some false).bind fun v6=>
 if v6 then
 some (v3.1.Num,(⟨a0.l,i64 (a0.at_+1),a0.end_,a0.bad⟩:pensionref5_reader))
 else
 (q9 a0).bind fun v7=>
 some (0,v7)
 else
 (q9 a0).bind fun v8=>
 some (0,v8)
def a5z (a0:ByteArray):Option Int:=
 (b8d a0 1 (a0.size:Int)).bind fun v1=>
 (a2e v1).bind fun v2=>
 some v2.1
def a9e (a0:ByteArray):Option Int:=
 if (a0.toList==a6l.toList) then
 some 6
 else
 if (a0.toList==b4f.toList) then
 some 9
 else
 if (a0.toList==a93.toList) then
 some 7
 else
 if (a0.toList==d0r.toList) then
 some 8
 else
 if (a0.toList==b95.toList) then
 some 10
 else
 if (a0.toList==b05.toList) then
 some 5
 else
 some 0
def a6g (a0:ByteArray):Option Int:=
 if (a0.toList==c1e.toList) then
 some 1
 else
 if (a0.toList==a5k.toList) then
 some 2
 else
 if (a0.toList==b2g.toList) then
 some 3
 else
 if (a0.toList==b6o.toList) then
 some 4
 else
 if (a0.toList==b2m.toList) then
 some 5
 else
 some 0
def a98 (a0:ByteArray):Option Int:=
 if (a0.toList==c45.toList) then
 some 1
 else
 if (a0.toList==d2w.toList) then
 some 2
 else
 if (a0.toList==c40.toList) then
 some 3
 else
 if (a0.toList==c2q.toList) then
 some 4
 else
 some 0
def a0x (a0:pensionref5_reader) (a1:Int):Option (Int×pensionref5_reader):=
 (u5 a0 1).bind fun v1=>
 if v1 then
 (c8 a0.l a0.at_).bind fun v2=>
 (a9e v2.Text).bind fun v3=>
 (a6g v2.Text).bind fun v4=>
 (a98 v2.Text).bind fun v5=>
 (c8 [v3,v4,v5] (i64 (a1-1))).bind fun v6=>
 (c8 [v3,v4,v5] (i64 (a1-1))).bind fun v7=>
 if (decide (v7>0)) then
 some (v7,(⟨a0.l,i64 (a0.at_+1),a0.end_,a0.bad⟩:pensionref5_reader))
 else
 (q9 a0).bind fun v8=>
 some (0,v8)
 else
 (q9 a0).bind fun v9=>
 some (0,v9)
def a15 (a0:Int):Option Int:=
 (if (decide (a0 >= 1)) then some (decide (a0 <= 3)) else some false).bind fun v1=>
 if v1 then
 some 0
 else
 (if (decide (a0 >= 4)) then some (decide (a0 <= 6)) else some false).bind fun v2=>
 if v2 then
 some 1
 else
 (if (decide (a0 >= 7)) then some (decide (a0 <= 20)) else some false).bind fun v3=>
 if v3 then
 some 2
 else
 if (a0==21) then
 some 3
 else
 some (-1:Int)
def b3r (v2:Int×Bool):Option Int:=
 if v2.2 then
 some 5
 else
 if (v2.1==9) then
 if (v2.1==9) then
 some 6
 else
 some 7
 else
 if (v2.1==10) then
 some 6
 else
 some 7
def a2g (v1:Int×Bool):Option Int:=
 if v1.2 then
 some 4
 else
 if (v1.1==7) then
 joinC b3r (v1.1,v1.1==7)
 else
 joinC b3r (v1.1,v1.1==8)
def b1l (a0:Int):Option Int:=
 if (a0==21) then
 some 0
 else
 if (a0==18) then
 some 1
 else
 if (a0==17) then
 some 2
 else
 if (a0==5) then
 some 3
 else
 if (a0==11) then
 joinC a2g (a0,a0==11)
 else
 if (a0==12) then
 joinC a2g (a0,a0==12)
 else
 if (a0==13) then
 joinC a2g (a0,a0==13)
 else
 if (a0==14) then
 joinC a2g (a0,a0==14)
 else
 if (a0==15) then
 joinC a2g (a0,a0==15)
 else
 joinC a2g (a0,a0==16)
def b0s (a0:Int):Option ByteArray:=
 if (a0==7) then
 some d17
 else
 if (a0==8) then
 some b93
 else
 if (a0==9) then
 some a8u
 else
 if (a0==10) then
 some c1b
 else
 if (a0==11) then
 some d2e
 else
 if (a0==12) then
 some b6p
 else
 if (a0==13) then
 some b9a
 else
 if (a0==14) then
 some b6w
 else
 if (a0==15) then
 some d6r
 else
 if (a0==16) then
 some a5w
 else
 if (a0==17) then
 some c00
 else
 some c72
def a00 (a1:Int) (a0:pensionref5_reader) (r2:Int -> Option Int) (v1:Int):Option Int:=
 if (decide (v1 <= 18)) then
 (b1l v1).bind fun v3=>
 (if (v3==a1) then (b0s v1).bind fun v4=>
 (a09 a0 v4).bind fun v5=>
 some v5 else some false).bind fun v6=>
 if v6 then
 some v1
 else
 r2 (i64 (v1+1))
 else
 some 0
def a36 (a0:pensionref5_reader) (a1:Int):Option Int:=
 d8 FU (a00 a1 a0) 7
structure Ring_pensionref5_reader_expr where
 f_pensionref5_reader_expr:pensionref5_reader -> Int -> Option (Expr×pensionref5_reader)
 f_pensionref5_reader_factor:pensionref5_reader -> Option (Expr×pensionref5_reader)
 f_pensionref5_reader_call:pensionref5_reader -> Int -> Option (Expr×pensionref5_reader)
def w9 (R:Ring_pensionref5_reader_expr) (a1:Int) (r14:(pensionref5_reader×(List Expr)×Expr×Expr) -> Option (Expr×pensionref5_reader)) (v13:pensionref5_reader×(List Expr)×Expr×Expr):Option (Expr×pensionref5_reader):=
 if (!v13.1.bad) then
 (a36 v13.1 a1).bind fun v15=>
 if (v15==0) then
 some (v13.2.2.2,v13.1)
 else
 (R.f_pensionref5_reader_expr (⟨v13.1.l,i64 (v13.1.at_+1),v13.1.end_,v13.1.bad⟩:pensionref5_reader) (i64 (a1+1))).bind fun v16=>
 if (a1==4) then
 some ((⟨v15,(⟨0,0⟩:Fraction),0,a1v,[v13.2.2.2,v16.1]⟩:Expr),v16.2)
 else
 r14 (v16.2,v13.2.1,(⟨v13.2.2.1.Op,v13.2.2.1.Value,v13.2.2.1.Dim,v13.2.2.1.Name,[]⟩:Expr),(⟨v15,(⟨0,0⟩:Fraction),0,a1v,[v13.2.2.2,v16.1]⟩:Expr))
 else
 some (v13.2.2.2,v13.1)
def l8 (R:Ring_pensionref5_reader_expr) (a0:pensionref5_reader) (a1:Int):Option (Expr×pensionref5_reader):=
 if a0.bad then
 some ((⟨0,(⟨0,0⟩:Fraction),0,a1v,[]⟩:Expr),a0)
 else
 if (a1==0) then
 (g8 a0 b1f).bind fun v1=>
 if (!v1.1) then
 (R.f_pensionref5_reader_expr v1.2 1).bind fun v2=>
 some (v2.1,v2.2)
 else
 (R.f_pensionref5_reader_expr v1.2 0).bind fun v3=>
 (c6 v3.2 c0b).bind fun v4=>
 (R.f_pensionref5_reader_expr v4 0).bind fun v5=>
 (c6 v5.2 b5h).bind fun v6=>
 (R.f_pensionref5_reader_expr v6 0).bind fun v7=>
 some ((⟨21,(⟨0,0⟩:Fraction),0,a1v,[v3.1,v5.1,v7.1]⟩:Expr),v7.2)
 else
 if (a1==3) then
 (g8 a0 b9u).bind fun v8=>
 if v8.1 then
 (R.f_pensionref5_reader_expr v8.2 3).bind fun v9=>
 some ((⟨5,(⟨0,0⟩:Fraction),0,a1v,[v9.1]⟩:Expr),v9.2)
 else
 (R.f_pensionref5_reader_expr v8.2 4).bind fun v10=>
 some (v10.1,v10.2)
 else
 if (a1==7) then
 (R.f_pensionref5_reader_factor a0).bind fun v11=>
 some (v11.1,v11.2)
 else
 (R.f_pensionref5_reader_expr a0 (i64 (a1+1))).bind fun v12=>
 d8 FU (w9 R a1) (v12.2,[],(⟨0,(⟨0,0⟩:Fraction),0,a1v,[]⟩:Expr),v12.1)
def k8 (R:Ring_pensionref5_reader_expr) (a0:pensionref5_reader):Option (Expr×pensionref5_reader):=
 (u5 a0 2).bind fun v1=>
 if v1 then
 (c8 a0.l a0.at_).bind fun v2=>
 (w6 v2.Text).bind fun v3=>
 some ((⟨1,v3.1,v3.2.1,a1v,[]⟩:Expr),(⟨a0.l,i64 (a0.at_+1),a0.end_,a0.bad⟩:pensionref5_reader))
 else
 (g8 a0 b93).bind fun v4=>
 if v4.1 then
 (R.f_pensionref5_reader_expr v4.2 7).bind fun v5=>
 some ((⟨4,(⟨0,0⟩:Fraction),0,a1v,[v5.1]⟩:Expr),v5.2)
 else
 (g8 v4.2 a9f).bind fun v6=>
 if v6.1 then
 (R.f_pensionref5_reader_expr v6.2 0).bind fun v7=>
 (c6 v7.2 b1p).bind fun v8=>
 some (v7.1,v8)
 else
 (g8 v6.2 b23).bind fun v9=>
 if v9.1 then
 (c6 v9.2 a9f).bind fun v10=>
 (w8 v10 1 45).bind fun v11=>
 (c6 v11.2 b1p).bind fun v12=>
 some ((⟨3,(⟨v11.1,1⟩:Fraction),0,a1v,[]⟩:Expr),v12)
 else
 (a09 v9.2 b2t).bind fun v13=>
 if v13 then
 (R.f_pensionref5_reader_call v9.2 6).bind fun v14=>
 some (v14.1,v14.2)
 else
 (a09 v9.2 b87).bind fun v15=>
 if v15 then
 (R.f_pensionref5_reader_call v9.2 19).bind fun v16=>
 some (v16.1,v16.2)
 else
 (a09 v9.2 b6h).bind fun v17=>
 if v17 then
 (R.f_pensionref5_reader_call v9.2 20).bind fun v18=>
 some (v18.1,v18.2)
 else
 (a1a v9.2).bind fun v19=>
 some ((⟨2,(⟨0,0⟩:Fraction),0,v19.1,[]⟩:Expr),v19.2)
def a3a (R:Ring_pensionref5_reader_expr) (a0:pensionref5_reader) (a1:Int):Option (Expr×pensionref5_reader):=
 (c6 (⟨a0.l,i64 (a0.at_+1),a0.end_,a0.bad⟩:pensionref5_reader) a9f).bind fun v1=>
 (R.f_pensionref5_reader_expr v1 0).bind fun v2=>
 (a15 a1).bind fun v3=>
 if (v3==2) then
 (c6 v2.2 c52).bind fun v4=>
 (c8 [v2.1] 0).bind fun v5=>
 (R.f_pensionref5_reader_expr v4 0).bind fun v6=>
 (c6 v6.2 b1p).bind fun v7=>
 some ((⟨a1,(⟨0,0⟩:Fraction),0,a1v,[v5,v6.1]⟩:Expr),v7)
 else
 (c6 v2.2 b1p).bind fun v8=>
 some ((⟨a1,(⟨0,0⟩:Fraction),0,a1v,[v2.1]⟩:Expr),v8)
def d9:Nat -> Ring_pensionref5_reader_expr
 | 0=>⟨fun _ _=>none,fun _=>none,fun _ _=>none⟩
 | n+1=>⟨l8 (d9 n),k8 (d9 n),a3a (d9 n)⟩
def a25 (a0:pensionref5_reader) (a1:Int):Option (Expr×pensionref5_reader):=(d9 FU).f_pensionref5_reader_expr a0 a1
def a1t (v5:pensionref5_reader×(List Credit)×(List Index)×(List Let)×(List Grant)×(List Reduce)×Version×Credit):Option (pensionref5_reader×Version×(List Credit)×(List Index)×(List Let)×(List Grant)×(List Reduce)):=
 (a9h 16 v5.2.1 [v5.2.2.2.2.2.2.2]).bind fun v6=>
 (c6 v5.1 a0k).bind fun v7=>
 some (v7,(⟨v5.2.2.2.2.2.2.1.From,v5.2.2.2.2.2.2.1.Rounding,[],[],[],[],[]⟩:Version),v6,v5.2.2.1,v5.2.2.2.1,v5.2.2.2.2.1,v5.2.2.2.2.2.1)
def a4a (v16:pensionref5_reader×(List Credit)×(List Index)×(List Let)×(List Grant)×(List Reduce)×Version×Index):Option (pensionref5_reader×Version×(List Credit)×(List Index)×(List Let)×(List Grant)×(List Reduce)):=
 (a9h 24 v16.2.2.1 [v16.2.2.2.2.2.2.2]).bind fun v17=>
 (c6 v16.1 a0k).bind fun v18=>
 some (v18,(⟨v16.2.2.2.2.2.2.1.From,v16.2.2.2.2.2.2.1.Rounding,[],[],[],[],[]⟩:Version),v16.2.1,v17,v16.2.2.2.1,v16.2.2.2.2.1,v16.2.2.2.2.2.1)
def a1s (v14:pensionref5_reader×(List Credit)×(List Index)×(List Let)×(List Grant)×(List Reduce)×Version×Index):Option (pensionref5_reader×Version×(List Credit)×(List Index)×(List Let)×(List Grant)×(List Reduce)):=
 if (v14.2.2.2.2.2.2.2.Factor.Den==0) then
 (q9 v14.1).bind fun v15=>
 joinC a4a (v15,v14.2.1,v14.2.2.1,v14.2.2.2.1,v14.2.2.2.2.1,v14.2.2.2.2.2.1,(⟨v14.2.2.2.2.2.2.1.From,v14.2.2.2.2.2.2.1.Rounding,[],[],[],[],[]⟩:Version),v14.2.2.2.2.2.2.2)
 else
 joinC a4a (v14.1,v14.2.1,v14.2.2.1,v14.2.2.2.1,v14.2.2.2.2.1,v14.2.2.2.2.2.1,(⟨v14.2.2.2.2.2.2.1.From,v14.2.2.2.2.2.2.1.Rounding,[],[],[],[],[]⟩:Version),v14.2.2.2.2.2.2.2)
def a38 (a0:pensionref5_reader) (a1:Version) (a2:List Credit) (a3:List Index) (a4:List Let) (a5:List Grant) (a6:List Reduce):Option (pensionref5_reader×Version×(List Credit)×(List Index)×(List Let)×(List Grant)×(List Reduce)):=
 (g8 a0 a2h).bind fun v1=>
 if v1.1 then
 (a0x v1.2 1).bind fun v2=>
 (g8 v2.2 a94).bind fun v3=>
 if v3.1 then
 (w8 v3.2 1 73049).bind fun v4=>
 joinC a1t (v4.2,a2,a3,a4,a5,a6,(⟨a1.From,a1.Rounding,[],[],[],[],[]⟩:Version),(⟨v2.1,v4.1⟩:Credit))
 else
 joinC a1t (v3.2,a2,a3,a4,a5,a6,(⟨a1.From,a1.Rounding,[],[],[],[],[]⟩:Version),(⟨v2.1,0⟩:Credit))
 else
 (g8 v1.2 a59).bind fun v8=>
 if v8.1 then
 (w8 v8.2 1900 2099).bind fun v9=>
 (u5 v9.2 2).bind fun v10=>
 if v10 then
 (c8 v9.2.l v9.2.at_).bind fun v11=>
 (w6 v11.Text).bind fun v12=>
 (if (v12.2.1==2) then some (decide (v12.1.Num>0)) else some false).bind fun v13=>
 if v13 then
 joinC a1s ((⟨v9.2.l,i64 (v9.2.at_+1),v9.2.end_,v9.2.bad⟩:pensionref5_reader),a2,a3,a4,a5,a6,(⟨a1.From,a1.Rounding,[],[],[],[],[]⟩:Version),(⟨v9.1,v12.1⟩:Index))
 else
 joinC a1s (v9.2,a2,a3,a4,a5,a6,(⟨a1.From,a1.Rounding,[],[],[],[],[]⟩:Version),(⟨v9.1,(⟨0,0⟩:Fraction)⟩:Index))
 else
 joinC a1s (v9.2,a2,a3,a4,a5,a6,(⟨a1.From,a1.Rounding,[],[],[],[],[]⟩:Version),(⟨v9.1,(⟨0,0⟩:Fraction)⟩:Index))
 else
 (g8 v8.2 b1r).bind fun v19=>
 if v19.1 then
 (a1a v19.2).bind fun v20=>
 (c6 v20.2 b9a).bind fun v21=>
 (a25 v21 0).bind fun v22=>
 (a9h 88 a4 [(⟨v20.1,v22.1⟩:Let)]).bind fun v23=>
 (c6 v22.2 a0k).bind fun v24=>
 some (v24,(⟨a1.From,a1.Rounding,[],[],[],[],[]⟩:Version),a2,a3,v23,a5,a6)
 else
 (g8 v19.2 a3z).bind fun v25=>
 if v25.1 then
 (a0x v25.2 2).bind fun v26=>
 (c6 v26.2 b1f).bind fun v27=>
 (a25 v27 0).bind fun v28=>
 (c6 v28.2 b33).bind fun v29=>
 (a25 v29 0).bind fun v30=>
 (a9h 152 a5 [(⟨v26.1,v28.1,v30.1⟩:Grant)]).bind fun v31=>
 (c6 v30.2 a0k).bind fun v32=>
 some (v32,(⟨a1.From,a1.Rounding,[],[],[],[],[]⟩:Version),a2,a3,a4,v31,a6)
 else
 (g8 v25.2 a4j).bind fun v33=>
 if v33.1 then
 (a0x v33.2 2).bind fun v34=>
 (c6 v34.2 c3o).bind fun v35=>
 (a25 v35 0).bind fun v36=>
 (a9h 80 a6 [(⟨v34.1,v36.1⟩:Reduce)]).bind fun v37=>
 (c6 v36.2 a0k).bind fun v38=>
 some (v38,(⟨a1.From,a1.Rounding,[],[],[],[],[]⟩:Version),a2,a3,a4,a5,v37)
 else
 (q9 v33.2).bind fun v39=>
 (c6 v39 a0k).bind fun v40=>
 some (v40,(⟨a1.From,a1.Rounding,[],[],[],[],[]⟩:Version),a2,a3,a4,a5,a6)
def a0i (r12:(pensionref5_reader×(List Credit)×(List Index)×(List Let)×(List Grant)×(List Reduce)×Version×(List Credit)×(List Index)×(List Let)×(List Grant)×(List Reduce)×Version) -> Option (Version×pensionref5_reader)) (v11:pensionref5_reader×(List Credit)×(List Index)×(List Let)×(List Grant)×(List Reduce)×Version×(List Credit)×(List Index)×(List Let)×(List Grant)×(List Reduce)×Version):Option (Version×pensionref5_reader):=
 if (!v11.1.bad) then
 (g8 v11.1 a2w).bind fun v13=>
 if (!v13.1) then
 (a38 v13.2 (⟨v11.2.2.2.2.2.2.2.2.2.2.2.2.From,v11.2.2.2.2.2.2.2.2.2.2.2.2.Rounding,[],[],[],[],[]⟩:Version) v11.2.2.2.2.2.2.2.1 v11.2.2.2.2.2.2.2.2.1 v11.2.2.2.2.2.2.2.2.2.1 v11.2.2.2.2.2.2.2.2.2.2.1 v11.2.2.2.2.2.2.2.2.2.2.2.1).bind fun v14=>
 r12 (v14.1,v11.2.1,v11.2.2.1,v11.2.2.2.1,v11.2.2.2.2.1,v11.2.2.2.2.2.1,(⟨v11.2.2.2.2.2.2.1.From,v11.2.2.2.2.2.2.1.Rounding,[],[],[],[],[]⟩:Version),v14.2.2.1,v14.2.2.2.1,v14.2.2.2.2.1,v14.2.2.2.2.2.1,v14.2.2.2.2.2.2,(⟨v14.2.1.From,v14.2.1.Rounding,[],[],[],[],[]⟩:Version))
 else
 some ((⟨v11.2.2.2.2.2.2.2.2.2.2.2.2.From,v11.2.2.2.2.2.2.2.2.2.2.2.2.Rounding,v11.2.2.2.2.2.2.2.1,v11.2.2.2.2.2.2.2.2.1,v11.2.2.2.2.2.2.2.2.2.1,v11.2.2.2.2.2.2.2.2.2.2.1,v11.2.2.2.2.2.2.2.2.2.2.2.1⟩:Version),v13.2)
 else
 some ((⟨v11.2.2.2.2.2.2.2.2.2.2.2.2.From,v11.2.2.2.2.2.2.2.2.2.2.2.2.Rounding,v11.2.2.2.2.2.2.2.1,v11.2.2.2.2.2.2.2.2.1,v11.2.2.2.2.2.2.2.2.2.1,v11.2.2.2.2.2.2.2.2.2.2.1,v11.2.2.2.2.2.2.2.2.2.2.2.1⟩:Version),v11.1)
def a3w (v5:pensionref5_reader×(List Credit)×(List Index)×(List Let)×(List Grant)×(List Reduce)×Version×(List Credit)×(List Index)×(List Let)×(List Grant)×(List Reduce)×Version):Option (Version×pensionref5_reader):=
 (c6 v5.1 b50).bind fun v6=>
 (c6 v6 b2d).bind fun v7=>
 (a0x v7 3).bind fun v8=>
 (w8 v8.2 1 100000).bind fun v9=>
 (c6 v9.2 a0k).bind fun v10=>
 d8 FU a0i (v10,v5.2.1,v5.2.2.1,v5.2.2.2.1,v5.2.2.2.2.1,v5.2.2.2.2.2.1,(⟨v5.2.2.2.2.2.2.1.From,v5.2.2.2.2.2.2.1.Rounding,[],[],[],[],[]⟩:Version),v5.2.2.2.2.2.2.2.1,v5.2.2.2.2.2.2.2.2.1,v5.2.2.2.2.2.2.2.2.2.1,v5.2.2.2.2.2.2.2.2.2.2.1,v5.2.2.2.2.2.2.2.2.2.2.2.1,(⟨v5.2.2.2.2.2.2.2.2.2.2.2.2.From,(⟨v8.1,v9.1⟩:Rounding),[],[],[],[],[]⟩:Version))
def a2q (a0:pensionref5_reader):Option (Version×pensionref5_reader):=
 (c6 a0 b5c).bind fun v1=>
 (u5 v1 3).bind fun v2=>
 if v2 then
 (c8 v1.l v1.at_).bind fun v3=>
 (a5z v3.Text).bind fun v4=>
 joinC a3w ((⟨v1.l,i64 (v1.at_+1),v1.end_,v1.bad⟩:pensionref5_reader),[],[],[],[],[],(⟨0,(⟨0,0⟩:Rounding),[],[],[],[],[]⟩:Version),[],[],[],[],[],(⟨v4,(⟨0,0⟩:Rounding),[],[],[],[],[]⟩:Version))
 else
 (q9 v1).bind fun v15=>
 joinC a3w (v15,[],[],[],[],[],(⟨0,(⟨0,0⟩:Rounding),[],[],[],[],[]⟩:Version),[],[],[],[],[],(⟨0,(⟨0,0⟩:Rounding),[],[],[],[],[]⟩:Version))
def a9o (a0:pensionref5_reader):Option Int:=
 if (decide (a0.at_<(a0.l.length:Int))) then
 (c8 a0.l a0.at_).bind fun v1=>
 some v1.At
 else
 some a0.end_
def a8p (a0:Int):Option Bool:=
 (if (decide (a0 >= 0)) then some (decide (a0 <= 73048)) else some false).bind fun v1=>
 some v1
def a5l (a0:Rounding):Option Bool:=
 (if (decide (a0.Mode >= 1)) then some (decide (a0.Mode <= 4)) else some false).bind fun v1=>
 (if v1 then some (decide (a0.Unit >= 1)) else some false).bind fun v2=>
 (if v2 then some (decide (a0.Unit <= 100000)) else some false).bind fun v3=>
 some v3
def b94 (a0:Int) (a1:Int) (r2:((List ByteArray)×Int) -> Option ByteArray) (v1:(List ByteArray)×Int):Option ByteArray:=
 (if (decide (v1.2<(v1.1.length:Int))) then some (decide (a0>0)) else some false).bind fun v3=>
 if v3 then
 (if (a1==1) then (c8 v1.1 v1.2).bind fun v4=>
 (c8 v1.1 v1.2).bind fun v5=>
 (a9e v5).bind fun v6=>
 some (v6==a0) else some false).bind fun v7=>
 (if v7 then some true else (if (a1==2) then (c8 v1.1 v1.2).bind fun v8=>
 (c8 v1.1 v1.2).bind fun v9=>
 (a6g v9).bind fun v10=>
 some (v10==a0) else some false).bind fun v11=>
 some v11).bind fun v12=>
 (if v12 then some true else (if (a1==3) then (c8 v1.1 v1.2).bind fun v13=>
 (c8 v1.1 v1.2).bind fun v14=>
 (a98 v14).bind fun v15=>
 some (v15==a0) else some false).bind fun v16=>
 some v16).bind fun v17=>
 if v17 then
 (c8 v1.1 v1.2).bind fun v18=>
 (c8 v1.1 v1.2).bind fun v19=>
 some v19
 else
 r2 (v1.1,i64 (v1.2+1))
 else
 some a1v
def a3n (a0:Int) (a1:Int):Option ByteArray:=
 d8 FU (b94 a0 a1) ([a6l,b4f,a93,d0r,b95,b05,c1e,a5k,b2g,b6o,b2m,c45,d2w,c40,c2q],0)
def y8 (a0:Fraction):Option Bool:=
 (if (decide (a0.Den >= 1)) then some (decide (a0.Den <= 1000000000)) else some false).bind fun v1=>
 (if v1 then some (decide (a0.Num >= (-1000000000000000:Int))) else some false).bind fun v2=>
 (if v2 then some (decide (a0.Num <= 1000000000000000)) else some false).bind fun v3=>
 (if v3 then (a2k a0.Num).bind fun v4=>
 (a2b v4 (u64 (a0.Den))).bind fun v5=>
 some (v5==1) else some false).bind fun v6=>
 some v6
def b2s (a1:Int) (r2:(Int×ByteArray) -> Option ByteArray) (v1:Int×ByteArray):Option ByteArray:=
 (if (decide (v1.1>0)) then some true else some (decide ((v1.2.size:Int)<a1))).bind fun v3=>
 if v3 then
 (b5l v1.1 10).bind fun v4=>
 (b5l v1.1 10).bind fun v5=>
 (b8d a4f v4 (i64 (v5+1))).bind fun v6=>
 (a4o v6 v1.2).bind fun v7=>
 (b55 v1.1 10).bind fun v8=>
 r2 (v8,v7)
 else
 some v1.2
def a5a (a0:Int) (a1:Int):Option ByteArray:=
 d8 FU (b2s a1) (a0,a1v)
def a3p (v5:Fraction×ByteArray):Option ByteArray:=
 if (v5.1.Den != 1) then
 (a4o v5.2 c1b).bind fun v6=>
 (a5a v5.1.Den 1).bind fun v7=>
 (a4o v6 v7).bind fun v8=>
 some v8
 else
 some v5.2
def a2p (a0:Fraction):Option ByteArray:=
 (y8 a0).bind fun v1=>
 if (!v1) then
 some a1v
 else
 (a2k a0.Num).bind fun v2=>
 (a5a (i64 (v2)) 1).bind fun v3=>
 if (decide (a0.Num<0)) then
 (a4o b93 v3).bind fun v4=>
 joinC a3p (a0,v4)
 else
 joinC a3p (a0,v3)
def a7m (v11:Int×ByteArray×Int) (r13:(ByteArray×Int×Int) -> Option (ByteArray×Bool)) (v12:ByteArray×Int×Int):Option (ByteArray×Bool):=
 if (decide (v12.2.1>0)) then
 (b55 v12.2.1 v12.2.2).bind fun v14=>
 (b55 v12.2.1 v12.2.2).bind fun v15=>
 (b8d a4f v14 (i64 (v15+1))).bind fun v16=>
 (a4o v12.1 v16).bind fun v17=>
 (b5l v12.2.1 v12.2.2).bind fun v18=>
 (b55 v12.2.2 10).bind fun v19=>
 r13 (v17,v18,v19)
 else
 (c8 [a1v,f1c,f1t] (i64 (v11.1-2))).bind fun v20=>
 (c8 [a1v,f1c,f1t] (i64 (v11.1-2))).bind fun v21=>
 (a4o v12.1 v21).bind fun v22=>
 some (v22,true)
def a47 (v11:Int×ByteArray×Int):Option (ByteArray×Bool):=
 d8 FU (a7m v11) (v11.2.1,v11.2.2,1000)
def s4 (a0:Fraction) (a1:Int):Option (ByteArray×Bool):=
 (y8 a0).bind fun v1=>
 (if (!v1) then some true else some (decide (a0.Num<0))).bind fun v2=>
 (if v2 then some true else (b5l 10000 a0.Den).bind fun v3=>
 some (v3 != 0)).bind fun v4=>
 (if v4 then some true else some (decide (a1<2))).bind fun v5=>
 (if v5 then some true else some (decide (a1>4))).bind fun v6=>
 if v6 then
 some (a1v,false)
 else
 (b55 a0.Num a0.Den).bind fun v7=>
 if (decide (v7>999999999)) then
 some (a1v,false)
 else
 (a2p (⟨v7,1⟩:Fraction)).bind fun v8=>
 (b55 10000 a0.Den).bind fun v9=>
 if (decide ((i64 ((i64 (a0.Num-(i64 (v7*a0.Den))))*v9))>0)) then
 (a4o v8 a9z).bind fun v10=>
 joinC a47 (a1,v10,i64 ((i64 (a0.Num-(i64 (v7*a0.Den))))*v9))
 else
 joinC a47 (a1,v8,i64 ((i64 (a0.Num-(i64 (v7*a0.Den))))*v9))
structure Ring_pensionref5_Depth where
 f_pensionref5_Depth:Expr -> Option Int
def a8q (R:Ring_pensionref5_Depth) (r2:(Expr×Int×Int) -> Option Int) (v1:Expr×Int×Int):Option Int:=
 if (decide (v1.2.2<(v1.1.Args.length:Int))) then
 (c8 v1.1.Args v1.2.2).bind fun v3=>
 (R.f_pensionref5_Depth v3).bind fun v4=>
 r2 (v1.1,max v1.2.1 v4,i64 (v1.2.2+1))
 else
 some (i64 (v1.2.1+1))
def a6o (R:Ring_pensionref5_Depth) (a0:Expr):Option Int:=
 d8 FU (a8q R) (a0,0,0)
def a03:Nat -> Ring_pensionref5_Depth
 | 0=>⟨fun _=>none⟩
 | n+1=>⟨a6o (a03 n)⟩
def b6m (a0:Expr):Option Int:=(a03 FU).f_pensionref5_Depth a0
structure Ring_pensionref5_Size where
 f_pensionref5_Size:Expr -> Option Int
def a9j (R:Ring_pensionref5_Size) (r2:(Expr×Int×Int) -> Option Int) (v1:Expr×Int×Int):Option Int:=
 if (decide (v1.2.2<(v1.1.Args.length:Int))) then
 (c8 v1.1.Args v1.2.2).bind fun v3=>
 (R.f_pensionref5_Size v3).bind fun v4=>
 r2 (v1.1,i64 (v1.2.1+v4),i64 (v1.2.2+1))
 else
 some v1.2.1
def a7j (R:Ring_pensionref5_Size) (a0:Expr):Option Int:=
 d8 FU (a9j R) (a0,1,0)
def a07:Nat -> Ring_pensionref5_Size
 | 0=>⟨fun _=>none⟩
 | n+1=>⟨a7j (a07 n)⟩
def b8g (a0:Expr):Option Int:=(a07 FU).f_pensionref5_Size a0
structure Ring_pensionref5_formed where
 f_pensionref5_formed:Expr -> Option Bool
def a5f (R:Ring_pensionref5_formed) (v3:Bool) (r14:(Expr×Int) -> Option Bool) (v13:Expr×Int):Option Bool:=
 if (decide (v13.2<(v13.1.Args.length:Int))) then
 (c8 v13.1.Args v13.2).bind fun v15=>
 (R.f_pensionref5_formed v15).bind fun v16=>
 if (!v16) then
 some false
 else
 r14 (v13.1,i64 (v13.2+1))
 else
 some v3
def p4 (R:Ring_pensionref5_formed) (a0:Expr):Option Bool:=
 (a15 a0.Op).bind fun v1=>
 if ((a0.Args.length:Int) != v1) then
 some false
 else
 (if ((a0.Value.Num==0)&&((a0.Value.Den==0)&&(true))) then some (a0.Dim==0) else some false).bind fun v2=>
 (if v2 then some (a0.Name.toList==a1v.toList) else some false).bind fun v3=>
 if (a0.Op==1) then
 (s4 a0.Value a0.Dim).bind fun v4=>
 (if v4.2 then some (a0.Name.toList==a1v.toList) else some false).bind fun v5=>
 some v5
 else
 if (a0.Op==2) then
 (if ((a0.Value.Num==0)&&((a0.Value.Den==0)&&(true))) then some (a0.Dim==0) else some false).bind fun v6=>
 (if v6 then (u9 a0.Name).bind fun v7=>
 some v7 else some false).bind fun v8=>
 some v8
 else
 if (a0.Op==3) then
 (if (a0.Dim==0) then some (a0.Name.toList==a1v.toList) else some false).bind fun v9=>
 (if v9 then some (a0.Value.Den==1) else some false).bind fun v10=>
 (if v10 then some (decide (a0.Value.Num >= 1)) else some false).bind fun v11=>
 (if v11 then some (decide (a0.Value.Num <= 45)) else some false).bind fun v12=>
 some v12
 else
 d8 FU (a5f R v3) (a0,0)
def i7:Nat -> Ring_pensionref5_formed
 | 0=>⟨fun _=>none⟩
 | n+1=>⟨p4 (i7 n)⟩
def b60 (a0:Expr):Option Bool:=(i7 FU).f_pensionref5_formed a0
def y4 (a0:Expr):Option Bool:=
 (b6m a0).bind fun v1=>
 (if (decide (v1 <= 10)) then (b8g a0).bind fun v2=>
 some (decide (v2 <= 60)) else some false).bind fun v3=>
 (if v3 then (b60 a0).bind fun v4=>
 some v4 else some false).bind fun v5=>
 some v5
def a21 (r45:(Version×Int) -> Option Bool) (v44:Version×Int):Option Bool:=
 if (decide (v44.2<(v44.1.Reduces.length:Int))) then
 (c8 v44.1.Reduces v44.2).bind fun v46=>
 (a3n v46.Benefit 2).bind fun v47=>
 (if (v47.toList==a1v.toList) then some true else (c8 v44.1.Reduces v44.2).bind fun v48=>
 (y4 v48.By).bind fun v49=>
 some (!v49)).bind fun v50=>
 if v50 then
 some false
 else
 r45 (v44.1,i64 (v44.2+1))
 else
 some true
def a22 (r35:(Version×Int) -> Option Bool) (v34:Version×Int):Option Bool:=
 if (decide (v34.2<(v34.1.Grants.length:Int))) then
 (c8 v34.1.Grants v34.2).bind fun v36=>
 (a3n v36.Benefit 2).bind fun v37=>
 (if (v37.toList==a1v.toList) then some true else (c8 v34.1.Grants v34.2).bind fun v38=>
 (y4 v38.If).bind fun v39=>
 some (!v39)).bind fun v40=>
 (if v40 then some true else (c8 v34.1.Grants v34.2).bind fun v41=>
 (y4 v41.Pay).bind fun v42=>
 some (!v42)).bind fun v43=>
 if v43 then
 some false
 else
 r35 (v34.1,i64 (v34.2+1))
 else
 d8 FU a21 (v34.1,0)
def a2d (r28:(Version×Int) -> Option Bool) (v27:Version×Int):Option Bool:=
 if (decide (v27.2<(v27.1.Lets.length:Int))) then
 (c8 v27.1.Lets v27.2).bind fun v29=>
 (u9 v29.Name).bind fun v30=>
 (if (!v30) then some true else (c8 v27.1.Lets v27.2).bind fun v31=>
 (y4 v31.Body).bind fun v32=>
 some (!v32)).bind fun v33=>
 if v33 then
 some false
 else
 r28 (v27.1,i64 (v27.2+1))
 else
 d8 FU a22 (v27.1,0)
def a29 (r18:(Version×Int) -> Option Bool) (v17:Version×Int):Option Bool:=
 if (decide (v17.2<(v17.1.Series.length:Int))) then
 (c8 v17.1.Series v17.2).bind fun v19=>
 (s4 v19.Factor 2).bind fun v20=>
 (c8 v17.1.Series v17.2).bind fun v21=>
 (if (decide (v21.Year<1900)) then some true else (c8 v17.1.Series v17.2).bind fun v22=>
 some (decide (v22.Year>2099))).bind fun v23=>
 (if v23 then some true else some (!v20.2)).bind fun v24=>
 (if v24 then some true else (c8 v17.1.Series v17.2).bind fun v25=>
 some (decide (v25.Factor.Num<1))).bind fun v26=>
 if v26 then
 some false
 else
 r18 (v17.1,i64 (v17.2+1))
 else
 d8 FU a2d (v17.1,0)
def a27 (r10:(Version×Int) -> Option Bool) (v9:Version×Int):Option Bool:=
 if (decide (v9.2<(v9.1.Credits.length:Int))) then
 (c8 v9.1.Credits v9.2).bind fun v11=>
 (a3n v11.Kind 1).bind fun v12=>
 (if (v12.toList==a1v.toList) then some true else (c8 v9.1.Credits v9.2).bind fun v13=>
 some (decide (v13.Limit<0))).bind fun v14=>
 (if v14 then some true else (c8 v9.1.Credits v9.2).bind fun v15=>
 some (decide (v15.Limit>73049))).bind fun v16=>
 if v16 then
 some false
 else
 r10 (v9.1,i64 (v9.2+1))
 else
 d8 FU a29 (v9.1,0)
def a3l (a0:Version):Option Bool:=
 (a8p a0.From).bind fun v1=>
 (if (!v1) then some true else (a5l a0.Rounding).bind fun v2=>
 some (!v2)).bind fun v3=>
 (if v3 then some true else some (decide ((a0.Credits.length:Int)>6))).bind fun v4=>
 (if v4 then some true else some (decide ((a0.Series.length:Int)>20))).bind fun v5=>
 (if v5 then some true else some (decide ((a0.Lets.length:Int)>10))).bind fun v6=>
 (if v6 then some true else some (decide ((a0.Grants.length:Int)>5))).bind fun v7=>
 (if v7 then some true else some (decide ((a0.Reduces.length:Int)>5))).bind fun v8=>
 if v8 then
 some false
 else
 d8 FU a27 (a0,0)
def a5p (r7:(Statute×Int) -> Option Bool) (v6:Statute×Int):Option Bool:=
 if (decide (v6.2<(v6.1.Versions.length:Int))) then
 (c8 v6.1.Versions v6.2).bind fun v8=>
 (a3l v8).bind fun v9=>
 if (!v9) then
 some false
 else
 r7 (v6.1,i64 (v6.2+1))
 else
 some true
def a4k (a0:Statute):Option Bool:=
 (u9 a0.Name).bind fun v1=>
 (if (!v1) then some true else some (decide (a0.Currency<1))).bind fun v2=>
 (if v2 then some true else some (decide (a0.Currency>999))).bind fun v3=>
 (if v3 then some true else some (decide ((a0.Versions.length:Int)<1))).bind fun v4=>
 (if v4 then some true else some (decide ((a0.Versions.length:Int)>6))).bind fun v5=>
 if v5 then
 some false
 else
 d8 FU a5p (a0,0)
def a5q (r9:((List Version)×Statute×pensionref5_reader×(List Version)×Statute×Bool) -> Option (Statute×Int×Int)) (v10:(List Version)×Statute×pensionref5_reader×(List Version)×Statute):Option (Statute×Int×Int):=
 (a2q v10.2.2.1).bind fun v11=>
 (a9h 144 v10.2.2.2.1 [v11.1]).bind fun v12=>
 r9 (v10.1,(⟨v10.2.1.Name,v10.2.1.Currency,[]⟩:Statute),v11.2,v12,(⟨v10.2.2.2.2.Name,v10.2.2.2.2.Currency,[]⟩:Statute),false)
def a8x (v14:(List Version)×Statute×pensionref5_reader×(List Version)×Statute):Option (Statute×Int×Int):=
 (if v14.2.2.1.bad then some true else some (decide (v14.2.2.1.at_<(v14.2.2.1.l.length:Int)))).bind fun v15=>
 if v15 then
 (a9o v14.2.2.1).bind fun v16=>
 some ((⟨a1v,0,[]⟩:Statute),v16,4)
 else
 (a4k (⟨v14.2.2.2.2.Name,v14.2.2.2.2.Currency,v14.2.2.2.1⟩:Statute)).bind fun v17=>
 if (!v17) then
 some ((⟨a1v,0,[]⟩:Statute),0,7)
 else
 some ((⟨v14.2.2.2.2.Name,v14.2.2.2.2.Currency,v14.2.2.2.1⟩:Statute),0,0)
def a3y (r9:((List Version)×Statute×pensionref5_reader×(List Version)×Statute×Bool) -> Option (Statute×Int×Int)) (v8:(List Version)×Statute×pensionref5_reader×(List Version)×Statute×Bool):Option (Statute×Int×Int):=
 if (!v8.2.2.1.bad) then
 if v8.2.2.2.2.2 then
 joinC (a5q r9) (v8.1,(⟨v8.2.1.Name,v8.2.1.Currency,[]⟩:Statute),v8.2.2.1,v8.2.2.2.1,(⟨v8.2.2.2.2.1.Name,v8.2.2.2.2.1.Currency,[]⟩:Statute))
 else
 (g8 v8.2.2.1 a2w).bind fun v13=>
 if (!v13.1) then
 joinC (a5q r9) (v8.1,(⟨v8.2.1.Name,v8.2.1.Currency,[]⟩:Statute),v13.2,v8.2.2.2.1,(⟨v8.2.2.2.2.1.Name,v8.2.2.2.2.1.Currency,[]⟩:Statute))
 else
 joinC a8x (v8.1,(⟨v8.2.1.Name,v8.2.1.Currency,[]⟩:Statute),v13.2,v8.2.2.2.1,(⟨v8.2.2.2.2.1.Name,v8.2.2.2.2.1.Currency,[]⟩:Statute))
 else
 joinC a8x (v8.1,(⟨v8.2.1.Name,v8.2.1.Currency,[]⟩:Statute),v8.2.2.1,v8.2.2.2.1,(⟨v8.2.2.2.2.1.Name,v8.2.2.2.2.1.Currency,[]⟩:Statute))
def a32 (a0:ByteArray):Option (Statute×Int×Int):=
 (b1q a0).bind fun v1=>
 optC v1.1 (if (v1.2.2 != 0) then
 some ((⟨a1v,0,[]⟩:Statute),v1.2.1,v1.2.2)
 else
 none) fun v2=>
 if (v1.2.2 != 0) then
 some ((⟨a1v,0,[]⟩:Statute),v1.2.1,v1.2.2)
 else
 (c6 v2 a3s).bind fun v3=>
 (a1a v3).bind fun v4=>
 (c6 v4.2 a2l).bind fun v5=>
 (w8 v5 1 999).bind fun v6=>
 (c6 v6.2 b50).bind fun v7=>
 d8 FU a3y ([],(⟨a1v,0,[]⟩:Statute),v7,[],(⟨v4.1,v6.1,[]⟩:Statute),true)
def a0t (a0:List Int) (r2:((List State)×(List Rules)×(List Rate)×Laws×(List State)×(List Rules)×Laws×Int) -> Option Laws) (v1:(List State)×(List Rules)×(List Rate)×Laws×(List State)×(List Rules)×Laws×Int):Option Laws:=
 if (decide (v1.2.2.2.2.2.2.2<3)) then
 (a14 v1.2.2.2.2.2.2.2 a0).bind fun v3=>
 (a32 v3).bind fun v4=>
 if (v4.2.2==0) then
 (a9h 56 v1.2.2.2.2.1 [(⟨v1.2.2.2.2.2.2.2,v4.1⟩:State)]).bind fun v5=>
 r2 (v1.1,v1.2.1,v1.2.2.1,(⟨[],[],[]⟩:Laws),v5,v1.2.2.2.2.2.1,(⟨[],[],v1.2.2.2.2.2.2.1.Rates⟩:Laws),i64 (v1.2.2.2.2.2.2.2+1))
 else
 r2 (v1.1,v1.2.1,v1.2.2.1,(⟨[],[],[]⟩:Laws),v1.2.2.2.2.1,v1.2.2.2.2.2.1,(⟨[],[],v1.2.2.2.2.2.2.1.Rates⟩:Laws),i64 (v1.2.2.2.2.2.2.2+1))
 else
 (d7 a0 2).bind fun v6=>
 (b6 v6 6).bind fun v7=>
 (d7 a0 5).bind fun v8=>
 (b6 v8 3).bind fun v9=>
 if (v9==0) then
 (c8 [(⟨0,i64 (90*v7),730,25,[0,1]⟩:Rules)] 0).bind fun v10=>
 (c8 [(⟨0,i64 (90*v7),730,25,[0,1]⟩:Rules)] 0).bind fun v11=>
 some (⟨v1.2.2.2.2.1,a1c [(⟨0,i64 (90*v7),730,25,[0,1]⟩:Rules)] 0 (⟨v11.From,v11.MinDays,v11.PostingLimit,v11.Substantial,[0,1,2]⟩:Rules),v1.2.2.2.2.2.2.1.Rates⟩:Laws)
 else
 if (v9==1) then
 (a9h 56 [(⟨0,i64 (90*v7),730,25,[0,1]⟩:Rules)] [(⟨35000,i64 (90*v7),365,30,[0,1,2]⟩:Rules)]).bind fun v12=>
 some (⟨v1.2.2.2.2.1,v12,v1.2.2.2.2.2.2.1.Rates⟩:Laws)
 else
 (c8 [(⟨0,i64 (90*v7),730,25,[0,1]⟩:Rules)] 0).bind fun v13=>
 (c8 [(⟨0,i64 (90*v7),730,25,[0,1]⟩:Rules)] 0).bind fun v14=>
 (a9h 56 (a1c [(⟨0,i64 (90*v7),730,25,[0,1]⟩:Rules)] 0 (⟨v14.From,v14.MinDays,v14.PostingLimit,v14.Substantial,[0,1,2]⟩:Rules)) [(⟨36000,i64 (90*v7),730,25,[0,1]⟩:Rules)]).bind fun v15=>
 some (⟨v1.2.2.2.2.1,v15,v1.2.2.2.2.2.2.1.Rates⟩:Laws)
def a9a (a0:List Int):Option Laws:=
 d8 FU (a0t a0) ([],[],[],(⟨[],[],[]⟩:Laws),[],[],(⟨[],[],[(⟨1,0,(⟨1,1⟩:Fraction)⟩:Rate),(⟨2,0,(⟨3,2⟩:Fraction)⟩:Rate),(⟨3,0,(⟨1,7⟩:Fraction)⟩:Rate),(⟨3,1150,(⟨1,9⟩:Fraction)⟩:Rate)]⟩:Laws),0)
def b2c (a0:List pensionhand_Claim) (r2:((List Claim)×Int) -> Option (List Claim)) (v1:(List Claim)×Int):Option (List Claim):=
 (if (decide (v1.2<(a0.length:Int))) then some (decide (v1.2<6)) else some false).bind fun v3=>
 if v3 then
 (c8 a0 v1.2).bind fun v4=>
 (b6 v4.Issuer 3).bind fun v5=>
 (c8 a0 v1.2).bind fun v6=>
 (b6 v6.Number 9).bind fun v7=>
 (c8 a0 v1.2).bind fun v8=>
 (b6 v8.Person 4).bind fun v9=>
 (c8 a0 v1.2).bind fun v10=>
 (b6 v10.Benefit 5).bind fun v11=>
 (c8 a0 v1.2).bind fun v12=>
 (b6 v12.Day 900).bind fun v13=>
 (if ((i64 (1+v11))==3) then some true else some ((i64 (1+v11))==4)).bind fun v14=>
 if v14 then
 (c8 a0 v1.2).bind fun v15=>
 (b6 v15.Ref 4).bind fun v16=>
 if ((i64 (1+v16))==(i64 (1+v9))) then
 (b6 (i64 (1+v9)) 4).bind fun v17=>
 (a9h 48 v1.1 [(⟨v5,i64 (1+v7),i64 (1+v9),i64 (1+v11),i64 (1+v17),i64 (35150+v13)⟩:Claim)]).bind fun v18=>
 r2 (v18,i64 (v1.2+1))
 else
 (a9h 48 v1.1 [(⟨v5,i64 (1+v7),i64 (1+v9),i64 (1+v11),i64 (1+v16),i64 (35150+v13)⟩:Claim)]).bind fun v19=>
 r2 (v19,i64 (v1.2+1))
 else
 (a9h 48 v1.1 [(⟨v5,i64 (1+v7),i64 (1+v9),i64 (1+v11),0,i64 (35150+v13)⟩:Claim)]).bind fun v20=>
 r2 (v20,i64 (v1.2+1))
 else
 some v1.1
def a7k (a0:List pensionhand_Claim):Option (List Claim):=
 d8 FU (b2c a0) ([],0)
def b0a (a0:Int):Option (List Claim):=
 (b6 a0 400).bind fun v1=>
 some [(⟨0,801,1,1,0,i64 (35150+v1)⟩:Claim),(⟨0,802,1,2,0,i64 (35150+v1)⟩:Claim),(⟨1,803,1,3,2,i64 (35150+v1)⟩:Claim),(⟨1,804,1,4,3,i64 (35150+v1)⟩:Claim),(⟨2,805,1,5,0,i64 (35150+v1)⟩:Claim),(⟨2,806,3,3,2,i64 (35150+v1)⟩:Claim)]
def a60 (a0:pensionlaw26_Seeds):Option (Laws×(List api_Fact)×(List Claim)):=
 (a88 a0.Lives).bind fun v1=>
 (a8f a0.Facts).bind fun v2=>
 (a9h 112 v1 v2).bind fun v3=>
 (a9a a0.Laws).bind fun v4=>
 (a7k a0.Claims).bind fun v5=>
 (b0a a0.Day).bind fun v6=>
 (a9h 48 v5 v6).bind fun v7=>
 some (v4,v3,v7)
def a7u (v1:Laws×(List api_Fact)×(List Claim)) (r3:(pensionlaw26_Seeds×(List State)×(List Rules)×(List Rate)×Laws×Laws×(List api_Fact)×(List Claim)×Int) -> Option (Laws×(List api_Fact)×(List Claim))) (v2:pensionlaw26_Seeds×(List State)×(List Rules)×(List Rate)×Laws×Laws×(List api_Fact)×(List Claim)×Int):Option (Laws×(List api_Fact)×(List Claim)):=
 if (decide (v2.2.2.2.2.2.2.2.2<(v1.2.2.length:Int))) then
 (c8 v2.2.2.2.2.2.2.2.1 v2.2.2.2.2.2.2.2.2).bind fun v4=>
 (c8 v2.2.2.2.2.2.2.2.1 v2.2.2.2.2.2.2.2.2).bind fun v5=>
 (b6 v5.Day 330).bind fun v6=>
 (c8 v2.2.2.2.2.2.2.2.1 v2.2.2.2.2.2.2.2.2).bind fun v7=>
 (c8 v2.2.2.2.2.2.2.2.1 v2.2.2.2.2.2.2.2.2).bind fun v8=>
 r3 (v2.1,v2.2.1,v2.2.2.1,v2.2.2.2.1,(⟨[],[],[]⟩:Laws),v2.2.2.2.2.2.1,v2.2.2.2.2.2.2.1,a1c v2.2.2.2.2.2.2.2.1 v2.2.2.2.2.2.2.2.2 (⟨v8.Issuer,v8.Number,v8.Person,v8.Benefit,v8.Ref,i64 (35150+v6)⟩:Claim),i64 (v2.2.2.2.2.2.2.2.2+1))
 else
 (b6 v2.1.Day 5).bind fun v9=>
 (b55 v2.1.Day 5).bind fun v10=>
 (b6 (i64 (v10+(v2.1.Lives.length:Int))) (v2.2.2.2.2.2.2.2.1.length:Int)).bind fun v11=>
 if ((i64 ((i64 ((v2.2.2.2.2.2.2.2.1.length:Int)-6))+v9))==v11) then
 (b7g v2.2.2.2.2.2.2.2.1 (i64 ((i64 ((v2.2.2.2.2.2.2.2.1.length:Int)-6))+v9)) (i64 ((i64 ((i64 ((v2.2.2.2.2.2.2.2.1.length:Int)-6))+v9))+1)) (i64 ((i64 ((i64 ((v2.2.2.2.2.2.2.2.1.length:Int)-6))+v9))+1))).bind fun v12=>
 some (v2.2.2.2.2.2.1,v2.2.2.2.2.2.2.1,v12)
 else
 (c8 v2.2.2.2.2.2.2.2.1 (i64 ((i64 ((v2.2.2.2.2.2.2.2.1.length:Int)-6))+v9))).bind fun v13=>
 (c8 v2.2.2.2.2.2.2.2.1 (i64 ((i64 ((v2.2.2.2.2.2.2.2.1.length:Int)-6))+v9))).bind fun v14=>
 (c8 v2.2.2.2.2.2.2.2.1 v11).bind fun v15=>
 (c8 v2.2.2.2.2.2.2.2.1 v11).bind fun v16=>
 some (v2.2.2.2.2.2.1,v2.2.2.2.2.2.2.1,[v14,v16])
def a7l (a0:pensionlaw26_Seeds):Option (Laws×(List api_Fact)×(List Claim)):=
 (a60 a0).bind fun v1=>
 d8 FU (a7u v1) (a0,[],[],[],(⟨[],[],[]⟩:Laws),v1.1,v1.2.1,v1.2.2,0)
def c1v (a0:Int):Option Bool:=
 (if (decide (a0 >= 97)) then some (decide (a0 <= 122)) else some false).bind fun v1=>
 some v1
def b88 (a0:Int):Option Bool:=
 (if (decide (a0 >= 48)) then some (decide (a0 <= 57)) else some false).bind fun v1=>
 some v1
def c5o (a0:Int):Option Bool:=
 (c1v a0).bind fun v1=>
 (if v1 then some true else (b88 a0).bind fun v2=>
 some v2).bind fun v3=>
 (if v3 then some true else some (a0==95)).bind fun v4=>
 some v4
def c78 (a0:ByteArray) (r6:Int -> Option Bool) (v5:Int):Option Bool:=
 if (decide (v5<(a0.size:Int))) then
 (b0v a0 v5).bind fun v7=>
 (c5o v7).bind fun v8=>
 if (!v8) then
 some false
 else
 r6 (i64 (v5+1))
 else
 some true
def c58 (a0:ByteArray):Option Bool:=
 (if (decide ((a0.size:Int)<1)) then some true else some (decide ((a0.size:Int)>12))).bind fun v1=>
 (if v1 then some true else (b0v a0 0).bind fun v2=>
 (c1v v2).bind fun v3=>
 some (!v3)).bind fun v4=>
 if v4 then
 some false
 else
 d8 FU (c78 a0) 0
def c15 (a0:ByteArray):Option Bool:=
 if (a0.toList==c00.toList) then
 if (a0.toList==c00.toList) then
 some true
 else
 some false
 else
 if (a0.toList==b23.toList) then
 if (a0.toList==b23.toList) then
 some true
 else
 some false
 else
 if (a0.toList==c3o.toList) then
 if (a0.toList==c3o.toList) then
 some true
 else
 some false
 else
 if (a0.toList==a2h.toList) then
 if (a0.toList==a2h.toList) then
 some true
 else
 some false
 else
 if (a0.toList==a2l.toList) then
 if (a0.toList==a2l.toList) then
 some true
 else
 some false
 else
 if (a0.toList==b5h.toList) then
 if (a0.toList==b5h.toList) then
 some true
 else
 some false
 else
 if (a0.toList==b2t.toList) then
 if (a0.toList==b2t.toList) then
 some true
 else
 some false
 else
 if (a0.toList==b5c.toList) then
 if (a0.toList==b5c.toList) then
 some true
 else
 some false
 else
 if (a0.toList==a3z.toList) then
 if (a0.toList==a3z.toList) then
 some true
 else
 some false
 else
 if (a0.toList==b1f.toList) then
 if (a0.toList==b1f.toList) then
 some true
 else
 some false
 else
 if (a0.toList==a59.toList) then
 if (a0.toList==a59.toList) then
 some true
 else
 some false
 else
 if (a0.toList==b1r.toList) then
 if (a0.toList==b1r.toList) then
 some true
 else
 some false
 else
 if (a0.toList==a94.toList) then
 if (a0.toList==a94.toList) then
 some true
 else
 some false
 else
 if (a0.toList==b6h.toList) then
 if (a0.toList==b6h.toList) then
 some true
 else
 some false
 else
 if (a0.toList==b87.toList) then
 if (a0.toList==b87.toList) then
 some true
 else
 some false
 else
 if (a0.toList==b9u.toList) then
 if (a0.toList==b9u.toList) then
 some true
 else
 some false
 else
 if (a0.toList==c72.toList) then
 if (a0.toList==c72.toList) then
 some true
 else
 some false
 else
 if (a0.toList==b33.toList) then
 if (a0.toList==b33.toList) then
 some true
 else
 some false
 else
 if (a0.toList==a4j.toList) then
 if (a0.toList==a4j.toList) then
 some true
 else
 some false
 else
 if (a0.toList==b2d.toList) then
 if (a0.toList==b2d.toList) then
 some true
 else
 some false
 else
 if (a0.toList==a3s.toList) then
 if (a0.toList==a3s.toList) then
 some true
 else
 some false
 else
 if (a0.toList==c0b.toList) then
 some true
 else
 some false
def a5d (a0:ByteArray):Option Bool:=
 (c58 a0).bind fun v1=>
 (if v1 then (c15 a0).bind fun v2=>
 some (!v2) else some false).bind fun v3=>
 some v3
def a4h (a0:Int):Option Bool:=
 (if (decide (a0 >= 0)) then some (decide (a0 <= 73048)) else some false).bind fun v1=>
 some v1
def b56:Option (List syntax_entry):=
 some [(⟨c45,1⟩:syntax_entry),(⟨d2w,2⟩:syntax_entry),(⟨c40,3⟩:syntax_entry),(⟨c2q,4⟩:syntax_entry)]
def b74 (a0:syntax_entry) (a1:Int):Option Bool:=
 some (a0.number==a1)
def a3u (a0:List syntax_entry) (a1_0:Int) (r2:Int -> Option Int) (v1:Int):Option Int:=
 if (decide (v1<(a0.length:Int))) then
 (c8 a0 v1).bind fun v3=>
 (b74 v3 a1_0).bind fun v4=>
 if v4 then
 some v1
 else
 r2 (i64 (v1+1))
 else
 some (-1:Int)
def a0s (a0:List syntax_entry) (a1_0:Int):Option Int:=
 d8 FU (a3u a0 a1_0) 0
def a1h (a0:List syntax_entry) (a1:Int):Option ByteArray:=
 (a0s a0 a1).bind fun v1=>
 if (decide (v1<0)) then
 some a1v
 else
 (c8 a0 v1).bind fun v2=>
 some v2.name
def b5v:Option (List syntax_entry):=
 some [(⟨a6l,6⟩:syntax_entry),(⟨b4f,9⟩:syntax_entry),(⟨a93,7⟩:syntax_entry),(⟨d0r,8⟩:syntax_entry),(⟨b95,10⟩:syntax_entry),(⟨b05,5⟩:syntax_entry)]
def a7t (a0:ByteArray) (a1:Int):Option Int:=
 (a6n a0 a1).bind fun v1=>
 some v1
def a5v (a0:ByteArray) (a1:ByteArray):Option Int:=
 (if ((a1.size:Int)==0) then some true else some (a1.toList==a0.toList)).bind fun v1=>
 if v1 then
 some 0
 else
 if ((a1.size:Int)==1) then
 (b0v a1 0).bind fun v2=>
 (a7t a0 v2).bind fun v3=>
 some v3
 else
 if (decide ((a1.size:Int) >= (a0.size:Int))) then
 some (-1:Int)
 else
 none
def b4y (a0:ByteArray) (a1:ByteArray):Option (ByteArray×ByteArray×Bool):=
 (a5v a0 a1).bind fun v1=>
 if (decide (v1 >= 0)) then
 (b8d a0 0 v1).bind fun v2=>
 (b8d a0 (i64 (v1+(a1.size:Int))) (a0.size:Int)).bind fun v3=>
 some (v2,v3,true)
 else
 some (a0,a1v,false)
def b7m (a0:ByteArray) (a1:ByteArray):Option (ByteArray×ByteArray×Bool):=
 (b4y a0 a1).bind fun v1=>
 some (v1.1,v1.2.1,v1.2.2)
def a6z (a0:ByteArray) (r2:(Int×Int) -> Option (Int×Bool)) (v1:Int×Int):Option (Int×Bool):=
 if (decide (v1.2<(a0.size:Int))) then
 (b0v a0 v1.2).bind fun v3=>
 (b88 v3).bind fun v4=>
 if (!v4) then
 some (0,false)
 else
 (b0v a0 v1.2).bind fun v5=>
 r2 (i64 ((i64 (10*v1.1))+(i64 (IntKind.u8.wrap (v5-48)))),i64 (v1.2+1))
 else
 some (v1.1,true)
def a6k (a0:ByteArray):Option (Int×Bool):=
 d8 FU (a6z a0) (0,0)
def b34 (v23:Int) (r22:(Fraction×Int) -> Option (Fraction×Int×Bool)) (v21:Fraction×Int) (r25:Fraction -> Option (Fraction×Int×Bool)) (v24:Fraction):Option (Fraction×Int×Bool):=
 (b5l v24.Num v23).bind fun v26=>
 (if (v26==0) then (b5l v24.Den v23).bind fun v27=>
 some (v27==0) else some false).bind fun v28=>
 if v28 then
 (b55 v24.Num v23).bind fun v29=>
 (b55 v24.Den v23).bind fun v30=>
 r25 (⟨v29,v30⟩:Fraction)
 else
 r22 (v24,i64 (v21.2+1))
def a1l (v20:Fraction×Int×Int×Int) (r22:(Fraction×Int) -> Option (Fraction×Int×Bool)) (v21:Fraction×Int):Option (Fraction×Int×Bool):=
 if (decide (v21.2<2)) then
 (c8 (⟨[2,5],rfl⟩:Ar 2 Int).l v21.2).bind fun v23=>
 d8 FU (b34 v23 r22 v21) v21.1
 else
 some (v21.1,v20.2.1,true)
def b8m (v20:Fraction×Int×Int×Int):Option (Fraction×Int×Bool):=
 d8 FU (a1l v20) ((⟨i64 (v20.2.2.1+v20.2.2.2),v20.1.Den⟩:Fraction),0)
def b8c (v4:ByteArray×Fraction×Int) (v14:Int×Bool) (r17:(Fraction×Int×(ByteArray×Int)) -> Option (Fraction×Int×Bool)) (v16:Fraction×Int×(ByteArray×Int)):Option (Fraction×Int×Bool):=
 optC (c6q v16.2.2.1 v16.2.2.2) (joinC b8m (v16.1,v4.2.2,v16.2.1,v14.1)) fun v18=>
 (v18).bind fun v19=>
 r17 ((⟨v16.1.Num,i64 (10*v16.1.Den)⟩:Fraction),i64 (10*v16.2.1),(v16.2.2.1,v16.2.2.2+1))
def a6w (v4:ByteArray×Fraction×Int):Option (Fraction×Int×Bool):=
 (b7m v4.1 a9z).bind fun v5=>
 (if (decide ((v5.1.size:Int)<1)) then some true else some (decide ((v5.1.size:Int)>9))).bind fun v6=>
 (if v6 then some true else (if (decide ((v5.1.size:Int)>1)) then (b0v v5.1 0).bind fun v7=>
 some (v7==48) else some false).bind fun v8=>
 some v8).bind fun v9=>
 (if v9 then some true else (if v5.2.2 then (if (decide ((v5.2.1.size:Int)<1)) then some true else some (decide ((v5.2.1.size:Int)>4))).bind fun v10=>
 some v10 else some false).bind fun v11=>
 some v11).bind fun v12=>
 if v12 then
 some ((⟨0,0⟩:Fraction),0,false)
 else
 (a6k v5.1).bind fun v13=>
 (a6k v5.2.1).bind fun v14=>
 (if (!v13.2) then some true else some (!v14.2)).bind fun v15=>
 if v15 then
 some ((⟨0,0⟩:Fraction),0,false)
 else
 d8 FU (b8c v4 v14) ((⟨v4.2.1.Num,1⟩:Fraction),v13.1,(v5.2.1,0))
def b3u (a0:ByteArray):Option (Fraction×Int×Bool):=
 (if (decide ((a0.size:Int)>0)) then (b0v a0 (i64 ((a0.size:Int)-1))).bind fun v1=>
 some (v1==100) else some false).bind fun v2=>
 if v2 then
 (b8d a0 0 (i64 ((a0.size:Int)-1))).bind fun v3=>
 joinC a6w (v3,(⟨0,0⟩:Fraction),3)
 else
 (if (decide ((a0.size:Int)>0)) then (b0v a0 (i64 ((a0.size:Int)-1))).bind fun v31=>
 some (v31==109) else some false).bind fun v32=>
 if v32 then
 (b8d a0 0 (i64 ((a0.size:Int)-1))).bind fun v33=>
 joinC a6w (v33,(⟨0,0⟩:Fraction),4)
 else
 joinC a6w (a0,(⟨0,0⟩:Fraction),2)
def b1h (r8:(Fraction×ByteArray×Int×Int) -> Option (ByteArray×Bool)) (v10:Int×Fraction×ByteArray×Int×Int):Option (ByteArray×Bool):=
 if (v10.2.2.2.2==4) then
 some (a1v,false)
 else
 (b55 (i64 (v10.2.2.2.1*10)) v10.2.1.Den).bind fun v11=>
 (strconv_Itoa v11).bind fun v12=>
 (a4o v10.2.2.1 v12).bind fun v13=>
 (b5l (i64 (v10.2.2.2.1*10)) v10.2.1.Den).bind fun v14=>
 r8 (v10.2.1,v13,v14,i64 (v10.2.2.2.2+1))
def a2u (v16:Int×Fraction×ByteArray):Option (ByteArray×Bool):=
 (b3u v16.2.2).bind fun v17=>
 (if (!v17.2.2) then some true else some (!((v17.1.Num==v16.2.1.Num)&&((v17.1.Den==v16.2.1.Den)&&(true))))).bind fun v18=>
 (if v18 then some true else some (v17.2.1 != v16.1)).bind fun v19=>
 if v19 then
 some (a1v,false)
 else
 some (v16.2.2,true)
def b10 (a1:Int) (r8:(Fraction×ByteArray×Int×Int) -> Option (ByteArray×Bool)) (v7:Fraction×ByteArray×Int×Int):Option (ByteArray×Bool):=
 if (decide (v7.2.2.1>0)) then
 if (v7.2.2.2==0) then
 (a4o v7.2.1 a9z).bind fun v9=>
 joinC (b1h r8) (a1,v7.1,v9,v7.2.2.1,v7.2.2.2)
 else
 joinC (b1h r8) (a1,v7.1,v7.2.1,v7.2.2.1,v7.2.2.2)
 else
 if (a1==3) then
 (a4o v7.2.1 f1c).bind fun v15=>
 joinC a2u (a1,v7.1,v15)
 else
 if (a1==4) then
 (a4o v7.2.1 f1t).bind fun v20=>
 joinC a2u (a1,v7.1,v20)
 else
 joinC a2u (a1,v7.1,v7.2.1)
def a0c (a0:Fraction) (a1:Int):Option (ByteArray×Bool):=
 (if (decide (a0.Den<1)) then some true else some (decide (a0.Den>10000))).bind fun v1=>
 (if v1 then some true else some (decide (a0.Num<0))).bind fun v2=>
 (if v2 then some true else some (decide (a0.Num>1000000000000000))).bind fun v3=>
 if v3 then
 some (a1v,false)
 else
 (b55 a0.Num a0.Den).bind fun v4=>
 (strconv_Itoa v4).bind fun v5=>
 (b5l a0.Num a0.Den).bind fun v6=>
 d8 FU (b10 a1) (a0,v5,v6,0)
def b2x (a0:Int):Option Bool:=
 (if (decide (a0 >= 1900)) then some (decide (a0 <= 2099)) else some false).bind fun v1=>
 some v1
def b1x (a0:Index):Option Bool:=
 (a0c a0.Factor 2).bind fun v1=>
 (if v1.2 then some (decide (a0.Factor.Num>0)) else some false).bind fun v2=>
 (if v2 then (b2x a0.Year).bind fun v3=>
 some v3 else some false).bind fun v4=>
 some v4
structure Ring_syntax_Depth where
 f_syntax_Depth:Expr -> Option Int
def b53 (R:Ring_syntax_Depth) (a0:Expr) (r2:(Int×Int) -> Option Int) (v1:Int×Int):Option Int:=
 if (decide (v1.2<(a0.Args.length:Int))) then
 (c8 a0.Args v1.2).bind fun v3=>
 (R.f_syntax_Depth v3).bind fun v4=>
 r2 (max v1.1 v4,i64 (v1.2+1))
 else
 some (i64 (v1.1+1))
def b21 (R:Ring_syntax_Depth) (a0:Expr):Option Int:=
 d8 FU (b53 R a0) (0,0)
def a1r:Nat -> Ring_syntax_Depth
 | 0=>⟨fun _=>none⟩
 | n+1=>⟨b21 (a1r n)⟩
def c5v (a0:Expr):Option Int:=(a1r FU).f_syntax_Depth a0
structure Ring_syntax_Size where
 f_syntax_Size:Expr -> Option Int
def b6b (R:Ring_syntax_Size) (a0:Expr) (r2:(Int×Int) -> Option Int) (v1:Int×Int):Option Int:=
 if (decide (v1.2<(a0.Args.length:Int))) then
 (c8 a0.Args v1.2).bind fun v3=>
 (R.f_syntax_Size v3).bind fun v4=>
 r2 (i64 (v1.1+v4),i64 (v1.2+1))
 else
 some v1.1
def b3x (R:Ring_syntax_Size) (a0:Expr):Option Int:=
 d8 FU (b6b R a0) (1,0)
def a2n:Nat -> Ring_syntax_Size
 | 0=>⟨fun _=>none⟩
 | n+1=>⟨b3x (a2n n)⟩
def c7e (a0:Expr):Option Int:=(a2n FU).f_syntax_Size a0
def a6d (a0:Int):Option Int:=
 (if (a0==1) then some true else some (a0==2)).bind fun v1=>
 (if v1 then some true else some (a0==3)).bind fun v2=>
 if v2 then
 some 0
 else
 (if (a0==4) then some true else some (a0==5)).bind fun v3=>
 (if v3 then some true else some (a0==6)).bind fun v4=>
 if v4 then
 some 1
 else
 (if (decide (a0 >= 7)) then some (decide (a0 <= 20)) else some false).bind fun v5=>
 if v5 then
 some 2
 else
 if (a0==21) then
 some 3
 else
 some (-1:Int)
def a30 (a0:Expr):Option Bool:=
 (a6d a0.Op).bind fun v1=>
 if ((a0.Args.length:Int) != v1) then
 some false
 else
 if (a0.Op==1) then
 (a0c a0.Value a0.Dim).bind fun v2=>
 (if v2.2 then some (a0.Name.toList==a1v.toList) else some false).bind fun v3=>
 some v3
 else
 if (a0.Op==2) then
 (a5d a0.Name).bind fun v4=>
 (if v4 then some ((a0.Value.Num==0)&&((a0.Value.Den==0)&&(true))) else some false).bind fun v5=>
 (if v5 then some (a0.Dim==0) else some false).bind fun v6=>
 some v6
 else
 if (a0.Op==3) then
 (if (a0.Value.Den==1) then some (decide (a0.Value.Num >= 1)) else some false).bind fun v7=>
 (if v7 then some (decide (a0.Value.Num <= 45)) else some false).bind fun v8=>
 (if v8 then some (a0.Dim==0) else some false).bind fun v9=>
 (if v9 then some (a0.Name.toList==a1v.toList) else some false).bind fun v10=>
 some v10
 else
 (if ((a0.Value.Num==0)&&((a0.Value.Den==0)&&(true))) then some (a0.Dim==0) else some false).bind fun v11=>
 (if v11 then some (a0.Name.toList==a1v.toList) else some false).bind fun v12=>
 some v12
structure Ring_syntax_form where
 f_syntax_form:Expr -> Option Bool
 f_syntax_form_1:Expr -> Option Bool
 f_slices_ContainsFunc_of_api_Expr:(List Expr) -> Option Bool
 f_slices_IndexFunc_of_api_Expr:(List Expr) -> Option Int
def b3t (R:Ring_syntax_form) (a0:Expr):Option Bool:=
 (a30 a0).bind fun v1=>
 (if v1 then (R.f_slices_ContainsFunc_of_api_Expr a0.Args).bind fun v2=>
 some (!v2) else some false).bind fun v3=>
 some v3
def b01 (R:Ring_syntax_form) (a0:Expr):Option Bool:=
 (R.f_syntax_form a0).bind fun v1=>
 some (!v1)
def p8 (R:Ring_syntax_form) (a0:List Expr):Option Bool:=
 (R.f_slices_IndexFunc_of_api_Expr a0).bind fun v1=>
 some (decide (v1 >= 0))
def y9 (R:Ring_syntax_form) (a0:List Expr) (r2:Int -> Option Int) (v1:Int):Option Int:=
 if (decide (v1<(a0.length:Int))) then
 (c8 a0 v1).bind fun v3=>
 (R.f_syntax_form_1 v3).bind fun v4=>
 if v4 then
 some v1
 else
 r2 (i64 (v1+1))
 else
 some (-1:Int)
def m7 (R:Ring_syntax_form) (a0:List Expr):Option Int:=
 d8 FU (y9 R a0) 0
def g7:Nat -> Ring_syntax_form
 | 0=>⟨fun _=>none,fun _=>none,fun _=>none,fun _=>none⟩
 | n+1=>⟨b3t (g7 n),b01 (g7 n),p8 (g7 n),m7 (g7 n)⟩
def c7w (a0:Expr):Option Bool:=(g7 FU).f_syntax_form a0
def a0j (a0:Expr):Option Bool:=
 (c5v a0).bind fun v1=>
 (if (decide (v1 <= 10)) then (c7e a0).bind fun v2=>
 some (decide (v2 <= 60)) else some false).bind fun v3=>
 (if v3 then (c7w a0).bind fun v4=>
 some v4 else some false).bind fun v5=>
 some v5
def a7r:Option (List syntax_entry):=
 some [(⟨c1e,1⟩:syntax_entry),(⟨a5k,2⟩:syntax_entry),(⟨b2g,3⟩:syntax_entry),(⟨b6o,4⟩:syntax_entry),(⟨b2m,5⟩:syntax_entry)]
def a7e (v38:Version) (r40:Int -> Option Bool) (v39:Int):Option Bool:=
 if (decide (v39<(v38.Reduces.length:Int))) then
 (c8 v38.Reduces v39).bind fun v41=>
 (a7r).bind fun v42=>
 (a1h v42 v41.Benefit).bind fun v43=>
 (if (v43.toList==a1v.toList) then some true else (a0j v41.By).bind fun v44=>
 some (!v44)).bind fun v45=>
 if v45 then
 some false
 else
 r40 (i64 (v39+1))
 else
 some true
def a7c (v38:Version):Option Bool:=
 d8 FU (a7e v38) 0
def a77 (v28:Version) (r30:(Version×Int) -> Option Bool) (v29:Version×Int):Option Bool:=
 if (decide (v29.2<(v28.Grants.length:Int))) then
 (c8 v28.Grants v29.2).bind fun v31=>
 (a7r).bind fun v32=>
 (a1h v32 v31.Benefit).bind fun v33=>
 (if (v33.toList==a1v.toList) then some true else (a0j v31.If).bind fun v34=>
 some (!v34)).bind fun v35=>
 (if v35 then some true else (a0j v31.Pay).bind fun v36=>
 some (!v36)).bind fun v37=>
 if v37 then
 some false
 else
 r30 (v29.1,i64 (v29.2+1))
 else
 joinC a7c v29.1
def a7a (v28:Version):Option Bool:=
 d8 FU (a77 v28) (v28,0)
def a7b (v21:Version) (r23:(Version×Int) -> Option Bool) (v22:Version×Int):Option Bool:=
 if (decide (v22.2<(v21.Lets.length:Int))) then
 (c8 v21.Lets v22.2).bind fun v24=>
 (a5d v24.Name).bind fun v25=>
 (if (!v25) then some true else (a0j v24.Body).bind fun v26=>
 some (!v26)).bind fun v27=>
 if v27 then
 some false
 else
 r23 (v22.1,i64 (v22.2+1))
 else
 joinC a7a v22.1
def a78 (v21:Version):Option Bool:=
 d8 FU (a7b v21) (v21,0)
def a74 (v16:Version) (r18:(Version×Int) -> Option Bool) (v17:Version×Int):Option Bool:=
 if (decide (v17.2<(v16.Series.length:Int))) then
 (c8 v16.Series v17.2).bind fun v19=>
 (b1x v19).bind fun v20=>
 if (!v20) then
 some false
 else
 r18 (v17.1,i64 (v17.2+1))
 else
 joinC a78 v17.1
def a75 (v16:Version):Option Bool:=
 d8 FU (a74 v16) (v16,0)
def a4y (v4:Version) (r10:(Version×Int) -> Option Bool) (v9:Version×Int):Option Bool:=
 if (decide (v9.2<(v4.Credits.length:Int))) then
 (c8 v4.Credits v9.2).bind fun v11=>
 (b5v).bind fun v12=>
 (a1h v12 v11.Kind).bind fun v13=>
 (if (v13.toList==a1v.toList) then some true else some (decide (v11.Limit<0))).bind fun v14=>
 (if v14 then some true else some (decide (v11.Limit>73049))).bind fun v15=>
 if v15 then
 some false
 else
 r10 (v9.1,i64 (v9.2+1))
 else
 joinC a75 v9.1
def a73 (v4:Version):Option Bool:=
 (if (decide ((v4.Credits.length:Int)>6)) then some true else some (decide ((v4.Series.length:Int)>20))).bind fun v5=>
 (if v5 then some true else some (decide ((v4.Lets.length:Int)>10))).bind fun v6=>
 (if v6 then some true else some (decide ((v4.Grants.length:Int)>5))).bind fun v7=>
 (if v7 then some true else some (decide ((v4.Reduces.length:Int)>5))).bind fun v8=>
 if v8 then
 some false
 else
 d8 FU (a4y v4) (v4,0)
def a6h (a0:Version):Option Bool:=
 (a4h a0.From).bind fun v1=>
 if (!v1) then
 (if true then some true else some (decide (a0.Rounding.Unit<1))).bind fun v2=>
 (if v2 then some true else some (decide (a0.Rounding.Unit>100000))).bind fun v3=>
 if v3 then
 some false
 else
 joinC a73 a0
 else
 (b56).bind fun v46=>
 (a1h v46 a0.Rounding.Mode).bind fun v47=>
 (if (v47.toList==a1v.toList) then some true else some (decide (a0.Rounding.Unit<1))).bind fun v48=>
 (if v48 then some true else some (decide (a0.Rounding.Unit>100000))).bind fun v49=>
 if v49 then
 some false
 else
 joinC a73 a0
def b00 (a0:Statute) (r7:Int -> Option Bool) (v6:Int):Option Bool:=
 if (decide (v6<(a0.Versions.length:Int))) then
 (c8 a0.Versions v6).bind fun v8=>
 (a6h v8).bind fun v9=>
 if (!v9) then
 some false
 else
 r7 (i64 (v6+1))
 else
 some true
def b5q (a0:Statute):Option Bool:=
 (a5d a0.Name).bind fun v1=>
 (if (!v1) then some true else some (decide (a0.Currency<1))).bind fun v2=>
 (if v2 then some true else some (decide (a0.Currency>999))).bind fun v3=>
 (if v3 then some true else some (decide ((a0.Versions.length:Int)<1))).bind fun v4=>
 (if v4 then some true else some (decide ((a0.Versions.length:Int)>6))).bind fun v5=>
 if v5 then
 some false
 else
 d8 FU (b00 a0) 0
def a4t (v2:ByteArray×Bool):Option (Int×Bool):=
 if v2.2 then
 some (3,true)
 else
 if (v2.1.toList==a9v.toList) then
 some (4,true)
 else
 some (0,false)
def b4h (v1:ByteArray×Bool):Option (Int×Bool):=
 if v1.2 then
 some (2,true)
 else
 if (v1.1.toList==a4l.toList) then
 joinC a4t (v1.1,v1.1.toList==a4l.toList)
 else
 if (v1.1.toList==b6s.toList) then
 joinC a4t (v1.1,v1.1.toList==b6s.toList)
 else
 if (v1.1.toList==a6l.toList) then
 joinC a4t (v1.1,v1.1.toList==a6l.toList)
 else
 if (v1.1.toList==b4f.toList) then
 joinC a4t (v1.1,v1.1.toList==b4f.toList)
 else
 if (v1.1.toList==b47.toList) then
 joinC a4t (v1.1,v1.1.toList==b47.toList)
 else
 if (v1.1.toList==c7b.toList) then
 joinC a4t (v1.1,v1.1.toList==c7b.toList)
 else
 joinC a4t (v1.1,v1.1.toList==d4x.toList)
def a7w (a0:ByteArray):Option (Int×Bool):=
 if (a0.toList==c27.toList) then
 joinC b4h (a0,a0.toList==c27.toList)
 else
 if (a0.toList==d82.toList) then
 joinC b4h (a0,a0.toList==d82.toList)
 else
 joinC b4h (a0,a0.toList==b2a.toList)
def b3z (a0:ByteArray):Option Bool:=
 (a0j (⟨2,(⟨0,0⟩:Fraction),0,a0,[]⟩:Expr)).bind fun v1=>
 some v1
def c37 (a0:Binding) (a1:Let):Option Bool:=
 some (a0.Name.toList==a1.Name.toList)
def b6c (a0:Binding):Option Bool:=
 (if (decide (a0.Dim<1)) then some true else some (decide (a0.Dim>4))).bind fun v1=>
 some v1
def a6e (a0:ByteArray) (a1:List Binding):Option (Int×Bool):=
 (a7w a0).bind fun v1=>
 if v1.2 then some (v1.1,true) else some (match a1.reverse.find? fun b=>b.Name.toList==a0.toList with | some b=>(b.Dim,true) | none=>(0,false))
def b8j (v30:(List Int)×Int×Bool):Option (Int×Bool):=
 if v30.2.2 then
 (c8 v30.1 0).bind fun v31=>
 (if (v31==1) then (c8 v30.1 1).bind fun v32=>
 some (v32==1) else some false).bind fun v33=>
 some (1,v33)
 else
 if (v30.2.1==21) then
 (c8 v30.1 1).bind fun v34=>
 (c8 v30.1 0).bind fun v35=>
 (if (v35==1) then (c8 v30.1 1).bind fun v36=>
 (c8 v30.1 2).bind fun v37=>
 some (v36==v37) else some false).bind fun v38=>
 some (v34,v38)
 else
 some (0,false)
def a57 (v25:(List Int)×Int×Bool):Option (Int×Bool):=
 if v25.2.2 then
 (c8 v25.1 0).bind fun v26=>
 (c8 v25.1 1).bind fun v27=>
 (if (v26==v27) then (c8 v25.1 0).bind fun v28=>
 some (v28 != 1) else some false).bind fun v29=>
 some (1,v29)
 else
 if (v25.2.1==17) then
 joinC b8j (v25.1,v25.2.1,v25.2.1==17)
 else
 joinC b8j (v25.1,v25.2.1,v25.2.1==18)
def a97 (v5:(List Int)×Int×Bool):Option (Int×Bool):=
 if v5.2.2 then
 (c8 v5.1 0).bind fun v6=>
 (c8 v5.1 0).bind fun v7=>
 (c8 v5.1 1).bind fun v8=>
 (if (v7==v8) then (c8 v5.1 0).bind fun v9=>
 some (v9 != 1) else some false).bind fun v10=>
 some (v6,v10)
 else
 if (v5.2.1==9) then
 (c8 v5.1 0).bind fun v11=>
 if (v11==2) then
 (c8 v5.1 1).bind fun v12=>
 (c8 v5.1 1).bind fun v13=>
 some (v12,v13 != 1)
 else
 (c8 v5.1 0).bind fun v14=>
 (c8 v5.1 1).bind fun v15=>
 (if (v15==2) then (c8 v5.1 0).bind fun v16=>
 some (v16 != 1) else some false).bind fun v17=>
 some (v14,v17)
 else
 if (v5.2.1==10) then
 (c8 v5.1 1).bind fun v18=>
 if (v18==2) then
 (c8 v5.1 0).bind fun v19=>
 (c8 v5.1 0).bind fun v20=>
 some (v19,v20 != 1)
 else
 (c8 v5.1 0).bind fun v21=>
 (c8 v5.1 1).bind fun v22=>
 (if (v21==v22) then (c8 v5.1 0).bind fun v23=>
 some (v23 != 1) else some false).bind fun v24=>
 some (2,v24)
 else
 if (v5.2.1==11) then
 joinC a57 (v5.1,v5.2.1,v5.2.1==11)
 else
 if (v5.2.1==12) then
 joinC a57 (v5.1,v5.2.1,v5.2.1==12)
 else
 if (v5.2.1==13) then
 joinC a57 (v5.1,v5.2.1,v5.2.1==13)
 else
 if (v5.2.1==14) then
 joinC a57 (v5.1,v5.2.1,v5.2.1==14)
 else
 if (v5.2.1==15) then
 joinC a57 (v5.1,v5.2.1,v5.2.1==15)
 else
 joinC a57 (v5.1,v5.2.1,v5.2.1==16)
def b8e (v1:(List Int)×Int×Bool):Option (Int×Bool):=
 if v1.2.2 then
 (c8 v1.1 0).bind fun v2=>
 (c8 v1.1 0).bind fun v3=>
 some (v2,v3 != 1)
 else
 if (v1.2.1==5) then
 (c8 v1.1 0).bind fun v4=>
 some (1,v4==1)
 else
 if (v1.2.1==7) then
 joinC a97 (v1.1,v1.2.1,v1.2.1==7)
 else
 if (v1.2.1==8) then
 joinC a97 (v1.1,v1.2.1,v1.2.1==8)
 else
 if (v1.2.1==19) then
 joinC a97 (v1.1,v1.2.1,v1.2.1==19)
 else
 joinC a97 (v1.1,v1.2.1,v1.2.1==20)
def b0k (a0:Int) (a1:List Int):Option (Int×Bool):=
 if (a0==4) then
 joinC b8e (a1,a0,a0==4)
 else
 joinC b8e (a1,a0,a0==6)
structure Ring_typing_infer where
 f_typing_infer:Expr -> (List Binding) -> Option (Int×Int)
def b0c (R:Ring_typing_infer) (a0:Expr) (a1:List Binding) (r3:(Expr×(List Int)×Int) -> Option (Int×Int)) (v2:Expr×(List Int)×Int):Option (Int×Int):=
 if (decide (v2.2.2<(a0.Args.length:Int))) then
 (c8 a0.Args v2.2.2).bind fun v4=>
 (R.f_typing_infer v4 a1).bind fun v5=>
 if (v5.2 != 0) then
 some (0,v5.2)
 else
 (a9h 8 v2.2.1 [v5.1]).bind fun v6=>
 r3 (v2.1,v6,i64 (v2.2.2+1))
 else
 (b0k v2.1.Op v2.2.1).bind fun v7=>
 if (!v7.2) then
 some (0,6)
 else
 some (v7.1,0)
def a3b (R:Ring_typing_infer) (a0:Expr) (a1:List Binding):Option (Int×Int):=
 if (a0.Op==1) then
 some (a0.Dim,0)
 else
 if (a0.Op==3) then
 some (4,0)
 else
 if (a0.Op==2) then
 (a6e a0.Name a1).bind fun v1=>
 if (!v1.2) then
 some (0,5)
 else
 some (v1.1,0)
 else
 d8 FU (b0c R a0 a1) (a0,[],0)
def u7:Nat -> Ring_typing_infer
 | 0=>⟨fun _ _=>none⟩
 | n+1=>⟨a3b (u7 n)⟩
def c59 (a0:Expr) (a1:List Binding):Option (Int×Int):=(u7 FU).f_typing_infer a0 a1
def o6 (a0:List Binding) (r2:Int -> Option Int) (v1:Int):Option Int:=
 if (decide (v1<(a0.length:Int))) then
 (c8 a0 v1).bind fun v3=>
 (b6c v3).bind fun v4=>
 if v4 then
 some v1
 else
 r2 (i64 (v1+1))
 else
 some (-1:Int)
def y5 (a0:List Binding):Option Int:=
 d8 FU (o6 a0) 0
def p3 (a0:List Binding):Option Bool:=
 (y5 a0).bind fun v1=>
 some (decide (v1 >= 0))
def b2q (a0:Expr) (a1:List Binding):Option (Int×Int):=
 (a0j a0).bind fun v1=>
 (if (!v1) then some true else (p3 a1).bind fun v2=>
 some v2).bind fun v3=>
 if v3 then
 some (0,1)
 else
 (c59 a0 a1).bind fun v4=>
 some (v4.1,v4.2)
def a4z (a0:List Binding) (a1_0:Let) (r2:Int -> Option Int) (v1:Int):Option Int:=
 if (decide (v1<(a0.length:Int))) then
 (c8 a0 v1).bind fun v3=>
 (c37 v3 a1_0).bind fun v4=>
 if v4 then
 some v1
 else
 r2 (i64 (v1+1))
 else
 some (-1:Int)
def a1i (a0:List Binding) (a1_0:Let):Option Int:=
 d8 FU (a4z a0 a1_0) 0
def p6 (a0:List Binding) (a1_0:Let):Option Bool:=
 (a1i a0 a1_0).bind fun v1=>
 some (decide (v1 >= 0))
def a72 (a0:List Let) (r2:((List Binding)×Int) -> Option ((List Binding)×Int)) (v1:(List Binding)×Int):Option ((List Binding)×Int):=
 if (decide (v1.2<(a0.length:Int))) then
 (c8 a0 v1.2).bind fun v3=>
 (a7w v3.Name).bind fun v4=>
 (if v4.2 then some true else (b3z v3.Name).bind fun v5=>
 some (!v5)).bind fun v6=>
 if v6 then
 some ([],5)
 else
 (p6 v1.1 v3).bind fun v7=>
 if v7 then
 some ([],10)
 else
 (b2q v3.Body v1.1).bind fun v8=>
 if (v8.2 != 0) then
 some ([],v8.2)
 else
 (a9h 24 v1.1 [(⟨v3.Name,v8.1⟩:Binding)]).bind fun v9=>
 r2 (v9,i64 (v1.2+1))
 else
 some (v1.1,0)
def b4e (a0:List Let):Option ((List Binding)×Int):=
 if (decide ((a0.length:Int)>10)) then
 some ([],7)
 else
 d8 FU (a72 a0) ([],0)
def b37 (a0:Credit) (a1:Credit):Option Bool:=
 some (a0.Kind==a1.Kind)
def b3a (a0:Grant) (a1:Grant):Option Bool:=
 some (a0.Benefit==a1.Benefit)
def b4b (a0:Expr) (a1:List Binding) (a2:Int):Option Int:=
 (b2q a0 a1).bind fun v1=>
 if (v1.2 != 0) then
 some v1.2
 else
 if (v1.1 != a2) then
 some 6
 else
 some 0
def b39 (a0:Reduce) (a1:Reduce):Option Bool:=
 some (a0.Benefit==a1.Benefit)
def o4 (a0:List Credit) (a1_0:Credit) (r2:Int -> Option Int) (v1:Int):Option Int:=
 if (decide (v1<(a0.length:Int))) then
 (c8 a0 v1).bind fun v3=>
 (b37 v3 a1_0).bind fun v4=>
 if v4 then
 some v1
 else
 r2 (i64 (v1+1))
 else
 some (-1:Int)
def y3 (a0:List Credit) (a1_0:Credit):Option Int:=
 d8 FU (o4 a0 a1_0) 0
def n6 (a0:List Credit) (a1_0:Credit):Option Bool:=
 (y3 a0 a1_0).bind fun v1=>
 some (decide (v1 >= 0))
def o8 (a0:List Grant) (a1_0:Grant) (r2:Int -> Option Int) (v1:Int):Option Int:=
 if (decide (v1<(a0.length:Int))) then
 (c8 a0 v1).bind fun v3=>
 (b3a v3 a1_0).bind fun v4=>
 if v4 then
 some v1
 else
 r2 (i64 (v1+1))
 else
 some (-1:Int)
def y6 (a0:List Grant) (a1_0:Grant):Option Int:=
 d8 FU (o8 a0 a1_0) 0
def o7 (a0:List Grant) (a1_0:Grant):Option Bool:=
 (y6 a0 a1_0).bind fun v1=>
 some (decide (v1 >= 0))
def n8 (a0:List Reduce) (a1_0:Reduce) (r2:Int -> Option Int) (v1:Int):Option Int:=
 if (decide (v1<(a0.length:Int))) then
 (c8 a0 v1).bind fun v3=>
 (b39 v3 a1_0).bind fun v4=>
 if v4 then
 some v1
 else
 r2 (i64 (v1+1))
 else
 some (-1:Int)
def y2 (a0:List Reduce) (a1_0:Reduce):Option Int:=
 d8 FU (n8 a0 a1_0) 0
def n9 (a0:List Reduce) (a1_0:Reduce):Option Bool:=
 (y2 a0 a1_0).bind fun v1=>
 some (decide (v1 >= 0))
def a8h (v12:Version×(List Binding)×Int) (r20:(Version×(List Binding)×Int) -> Option Int) (v19:Version×(List Binding)×Int):Option Int:=
 if (decide (v19.2.2<(v12.1.Reduces.length:Int))) then
 (c8 v12.1.Reduces v19.2.2).bind fun v21=>
 (a1q v19.1.Reduces 0 v19.2.2).bind fun v22=>
 (n9 v22 v21).bind fun v23=>
 if v23 then
 some 10
 else
 (b4b v21.By v19.2.1 2).bind fun v24=>
 if (v24 != 0) then
 some v24
 else
 r20 (v19.1,v19.2.1,i64 (v19.2.2+1))
 else
 some 0
def a82 (v7:Version×(List Binding)×Int) (r13:(Version×(List Binding)×Int) -> Option Int) (v12:Version×(List Binding)×Int):Option Int:=
 if (decide (v12.2.2<(v7.1.Grants.length:Int))) then
 (c8 v7.1.Grants v12.2.2).bind fun v14=>
 (a1q v12.1.Grants 0 v12.2.2).bind fun v15=>
 (o7 v15 v14).bind fun v16=>
 if v16 then
 some 10
 else
 (b4b v14.If v12.2.1 1).bind fun v17=>
 if (v17 != 0) then
 some v17
 else
 (b4b v14.Pay v12.2.1 4).bind fun v18=>
 if (v18 != 0) then
 some v18
 else
 r13 (v12.1,v12.2.1,i64 (v12.2.2+1))
 else
 d8 FU (a8h v12) (v12.1,v12.2.1,0)
def a86 (v2:Version×(List Binding)×Int) (r8:(Version×(List Binding)×Int) -> Option Int) (v7:Version×(List Binding)×Int):Option Int:=
 if (decide (v7.2.2<(v2.1.Series.length:Int))) then
 (c8 v2.1.Series v7.2.2).bind fun v9=>
 (if (decide (v7.2.2>0)) then (c8 v7.1.Series (i64 (v7.2.2-1))).bind fun v10=>
 some (decide (v9.Year <= v10.Year)) else some false).bind fun v11=>
 if v11 then
 some 1
 else
 r8 (v7.1,v7.2.1,i64 (v7.2.2+1))
 else
 d8 FU (a82 v7) (v7.1,v7.2.1,0)
def a8d (a0:Version) (r3:(Version×(List Binding)×Int) -> Option Int) (v2:Version×(List Binding)×Int):Option Int:=
 if (decide (v2.2.2<(a0.Credits.length:Int))) then
 (c8 a0.Credits v2.2.2).bind fun v4=>
 (a1q v2.1.Credits 0 v2.2.2).bind fun v5=>
 (n6 v5 v4).bind fun v6=>
 if v6 then
 some 10
 else
 r3 (v2.1,v2.2.1,i64 (v2.2.2+1))
 else
 d8 FU (a86 v2) (v2.1,v2.2.1,0)
def b25 (a0:Version):Option Int:=
 (b4e a0.Lets).bind fun v1=>
 if (v1.2 != 0) then
 some v1.2
 else
 d8 FU (a8d a0) (a0,v1.1,0)
def b1k (a0:Statute) (r3:(Statute×Int) -> Option (Int×Int)) (v2:Statute×Int):Option (Int×Int):=
 if (decide (v2.2<(a0.Versions.length:Int))) then
 (c8 a0.Versions v2.2).bind fun v4=>
 (if (decide (v2.2>0)) then (c8 v2.1.Versions (i64 (v2.2-1))).bind fun v5=>
 some (decide (v4.From <= v5.From)) else some false).bind fun v6=>
 if v6 then
 some (v2.2,1)
 else
 (b25 v4).bind fun v7=>
 if (v7 != 0) then
 some (v2.2,v7)
 else
 r3 (v2.1,i64 (v2.2+1))
 else
 some (0,0)
def a5j (a0:Statute):Option (Int×Int):=
 (b5q a0).bind fun v1=>
 if (!v1) then
 some (0,1)
 else
 d8 FU (b1k a0) (a0,0)
def a8a (a0:Int) (a1:Int):Option Bool:=
 (if (decide (a0 >= 0)) then some (decide (a0 <= a1)) else some false).bind fun v1=>
 some v1
def b4x (a0:Rules) (r9:(Rules×Int) -> Option Bool) (v8:Rules×Int):Option Bool:=
 if (decide (v8.2<(a0.Members.length:Int))) then
 (c8 a0.Members v8.2).bind fun v10=>
 (a8a v10 5).bind fun v11=>
 (if (!v11) then some true else (if (decide (v8.2>0)) then (c8 v8.1.Members (i64 (v8.2-1))).bind fun v12=>
 some (decide (v10 <= v12)) else some false).bind fun v13=>
 some v13).bind fun v14=>
 if v14 then
 some false
 else
 r9 (v8.1,i64 (v8.2+1))
 else
 some true
def a5b (a0:Rules):Option Bool:=
 (a4h a0.From).bind fun v1=>
 (if (!v1) then some true else (a8a a0.MinDays 73049).bind fun v2=>
 some (!v2)).bind fun v3=>
 (if v3 then some true else (a8a a0.PostingLimit 73049).bind fun v4=>
 some (!v4)).bind fun v5=>
 (if v5 then some true else (a8a a0.Substantial 100).bind fun v6=>
 some (!v6)).bind fun v7=>
 if v7 then
 some false
 else
 d8 FU (b4x a0) (a0,0)
def a1z (a0:List Rules) (r4:Int -> Option Int) (v3:Int):Option Int:=
 if (decide (v3<(a0.length:Int))) then
 (c8 a0 v3).bind fun v5=>
 (a5b v5).bind fun v6=>
 (if (!v6) then some true else (if (decide (v3>0)) then (c8 a0 (i64 (v3-1))).bind fun v7=>
 some (decide (v5.From <= v7.From)) else some false).bind fun v8=>
 some v8).bind fun v9=>
 if v9 then
 some 1
 else
 r4 (i64 (v3+1))
 else
 some 0
def b2i (a0:List Rules):Option Int:=
 if (decide ((a0.length:Int)>8)) then
 some 7
 else
 (if ((a0.length:Int)==0) then some true else (c8 a0 0).bind fun v1=>
 some (v1.From != 0)).bind fun v2=>
 if v2 then
 some 1
 else
 d8 FU (a1z a0) 0
def c0x (a0:Int):Option Bool:=
 (if (decide (a0 >= 1)) then some (decide (a0 <= 999)) else some false).bind fun v1=>
 some v1
def a4q (a0:Int):Option Bool:=
 (if (decide (a0 >= 0)) then some (decide (a0 <= 2399)) else some false).bind fun v1=>
 some v1
def b3v (a0:Int):Option Bool:=
 (b5l a0 4).bind fun v1=>
 (if (v1==0) then (b5l a0 100).bind fun v2=>
 some (v2 != 0) else some false).bind fun v3=>
 (if v3 then some true else (b5l a0 400).bind fun v4=>
 some (v4==0)).bind fun v5=>
 some v5
def a04 (a0:Int) (a1:Int):Option Int:=
 (if (a1==2) then (b3v a0).bind fun v1=>
 some v1 else some false).bind fun v2=>
 if v2 then
 some 29
 else
 (c8 (⟨[31,28,31,30,31,30,31,31,30,31,30,31],rfl⟩:Ar 12 Int).l (i64 (a1-1))).bind fun v3=>
 (c8 (⟨[31,28,31,30,31,30,31,31,30,31,30,31],rfl⟩:Ar 12 Int).l (i64 (a1-1))).bind fun v4=>
 some v4
def b5u (a0:Int):Option Int:=
 (a4q a0).bind fun v1=>
 if (!v1) then
 some 0
 else
 (b55 a0 12).bind fun v2=>
 (b5l a0 12).bind fun v3=>
 (a04 (i64 (1900+v2)) (i64 (v3+1))).bind fun v4=>
 some v4
def c8j (a0:Int):Option Bool:=
 (b5u a0).bind fun v1=>
 some (decide (v1>0))
def b8a (a0:Int):Option Int:=
 if (decide (a0<0)) then
 some (u64 (-(u64 (a0))))
 else
 some (u64 (a0))
def c8d (r2:(Int×Int) -> Option Int) (v1:Int×Int):Option Int:=
 if (v1.2 != 0) then
 (b5l v1.1 v1.2).bind fun v3=>
 r2 (v1.2,v3)
 else
 some v1.1
def c5q (a0:Int) (a1:Int):Option Int:=
 d8 FU c8d (a0,a1)
def c18 (a0:Fraction):Option Bool:=
 (if (decide (a0.Den >= 1)) then some (decide (a0.Den <= 1000000000)) else some false).bind fun v1=>
 (if v1 then some (decide (a0.Num >= (-1000000000000000:Int))) else some false).bind fun v2=>
 (if v2 then some (decide (a0.Num <= 1000000000000000)) else some false).bind fun v3=>
 (if v3 then (b8a a0.Num).bind fun v4=>
 (b8a a0.Den).bind fun v5=>
 (c5q v4 v5).bind fun v6=>
 some (v6==1) else some false).bind fun v7=>
 some v7
def c1s (a0:Int):Option Bool:=
 (if (decide (a0 >= 1)) then some (decide (a0 <= 1000000)) else some false).bind fun v1=>
 some v1
def c1x (a0:List Rate) (r2:Int -> Option Int) (v1:Int):Option Int:=
 if (decide (v1<(a0.length:Int))) then
 (c8 a0 v1).bind fun v3=>
 (c0x v3.Currency).bind fun v4=>
 (if (!v4) then some true else (c8j v3.Month).bind fun v5=>
 some (!v5)).bind fun v6=>
 (if v6 then some true else (c18 v3.Value).bind fun v7=>
 some (!v7)).bind fun v8=>
 (if v8 then some true else (c1s v3.Value.Num).bind fun v9=>
 some (!v9)).bind fun v10=>
 (if v10 then some true else (c1s v3.Value.Den).bind fun v11=>
 some (!v11)).bind fun v12=>
 if v12 then
 some 1
 else
 (if (decide (v1>0)) then (c8 a0 (i64 (v1-1))).bind fun v13=>
 (if (decide (v13.Currency>v3.Currency)) then some true else (c8 a0 (i64 (v1-1))).bind fun v14=>
 (if (v14.Currency==v3.Currency) then (c8 a0 (i64 (v1-1))).bind fun v15=>
 some (decide (v15.Month >= v3.Month)) else some false).bind fun v16=>
 some v16).bind fun v17=>
 some v17 else some false).bind fun v18=>
 if v18 then
 some 1
 else
 r2 (i64 (v1+1))
 else
 some 0
def a6t (a0:List Rate):Option Int:=
 if (decide ((a0.length:Int)>40)) then
 some 7
 else
 d8 FU (c1x a0) 0
def a90 (v1:Laws×Int) (r9:(Laws×Int) -> Option Int) (v8:Laws×Int):Option Int:=
 if (decide (v8.2<(v1.1.States.length:Int))) then
 (c8 v1.1.States v8.2).bind fun v10=>
 (a5j v10.Statute).bind fun v11=>
 if (v11.2 != 0) then
 some v11.2
 else
 r9 (v8.1,i64 (v8.2+1))
 else
 (b2i v8.1.Treaty).bind fun v12=>
 if (v12 != 0) then
 some v12
 else
 (a6t v8.1.Rates).bind fun v13=>
 some v13
def b68 (a0:Laws) (r2:(Laws×Int) -> Option Int) (v1:Laws×Int):Option Int:=
 if (decide (v1.2<(a0.States.length:Int))) then
 (c8 a0.States v1.2).bind fun v3=>
 (if (decide (v3.State<0)) then some true else some (decide (v3.State >= 6))).bind fun v4=>
 (if v4 then some true else (if (decide (v1.2>0)) then (c8 v1.1.States (i64 (v1.2-1))).bind fun v5=>
 some (decide (v3.State <= v5.State)) else some false).bind fun v6=>
 some v6).bind fun v7=>
 if v7 then
 some 1
 else
 r2 (v1.1,i64 (v1.2+1))
 else
 d8 FU (a90 v1) (v1.1,0)
def a9l (a0:Laws):Option Int:=
 d8 FU (b68 a0) (a0,0)
def b5y (v3:Int×Bool):Option ByteArray:=
 if v3.2 then
 some b8s
 else
 if (v3.1==14) then
 some c57
 else
 some a1v
def b2f (v2:Int×Bool):Option ByteArray:=
 if v2.2 then
 some a7z
 else
 if (v2.1==6) then
 some b5n
 else
 if (v2.1==10) then
 some b8z
 else
 if (v2.1==11) then
 joinC b5y (v2.1,v2.1==11)
 else
 if (v2.1==12) then
 joinC b5y (v2.1,v2.1==12)
 else
 joinC b5y (v2.1,v2.1==13)
def b9c (v1:Int×Bool):Option ByteArray:=
 if v1.2 then
 some a5x
 else
 if (v1.1==4) then
 some b9e
 else
 if (v1.1==5) then
 joinC b2f (v1.1,v1.1==5)
 else
 if (v1.1==7) then
 joinC b2f (v1.1,v1.1==7)
 else
 if (v1.1==8) then
 joinC b2f (v1.1,v1.1==8)
 else
 joinC b2f (v1.1,v1.1==9)
def b0u (a0:Int):Option ByteArray:=
 if (a0==1) then
 some a9n
 else
 if (a0==2) then
 joinC b9c (a0,a0==2)
 else
 joinC b9c (a0,a0==3)
def c2o (a0:ByteArray) (a1:ByteArray):Option Int:=
 (a5v a0 a1).bind fun v1=>
 some v1
def b8l (a0:ByteArray) (a1:ByteArray):Option Bool:=
 (c2o a0 a1).bind fun v1=>
 some (decide (v1 >= 0))
def a13 (a0:ByteArray) (a1:ByteArray):Option Bool:=
 (b8l a1 a0).bind fun v1=>
 some v1
def a7s (a0:Int) (a1:Int) (a2:Int):Option Bool:=
 (if (decide (a0 >= a1)) then some (decide (a0 <= a2)) else some false).bind fun v1=>
 some v1
def a89 (a0:Bool) (a1:Int) (a2:Int) (a3:Int):Option Bool:=
 (if a0 then (a7s a1 a2 a3).bind fun v1=>
 some v1 else some false).bind fun v2=>
 (if v2 then some true else (if (!a0) then some (a1==0) else some false).bind fun v3=>
 some v3).bind fun v4=>
 some v4
def b6a (a0:Span):Option Bool:=
 (if (decide (a0.From >= 0)) then some (decide (a0.From<a0.To)) else some false).bind fun v1=>
 (if v1 then some (decide (a0.To <= 73049)) else some false).bind fun v2=>
 some v2
def b7h (v29:api_Fact×Bool):Option Bool:=
 if v29.2 then
 some (v29.1.Ref != v29.1.Person)
 else
 some true
def b86 (v28:api_Fact×Int×Bool):Option Bool:=
 if v28.2.2 then
 some (v28.1.Span.To==(i64 (v28.1.Span.From+1)))
 else
 if (v28.2.1==10) then
 joinC b7h (v28.1,v28.2.1==10)
 else
 joinC b7h (v28.1,v28.2.1==14)
def a5t (a0:api_Fact):Option Bool:=
 (b0u a0.Kind).bind fun v1=>
 (if (v1.toList==a1v.toList) then some true else (a7s a0.Issuer 0 5).bind fun v2=>
 some (!v2)).bind fun v3=>
 (if v3 then some true else (a7s a0.Number 1 999).bind fun v4=>
 some (!v4)).bind fun v5=>
 (if v5 then some true else (a7s a0.Version 1 99).bind fun v6=>
 some (!v6)).bind fun v7=>
 (if v7 then some true else (a7s a0.Person 1 99).bind fun v8=>
 some (!v8)).bind fun v9=>
 if v9 then
 some false
 else
 (a13 g1z v1).bind fun v10=>
 (a89 v10 a0.State 0 5).bind fun v11=>
 (if (!v11) then some true else (a13 g33 v1).bind fun v12=>
 (a89 v12 a0.Seat 0 5).bind fun v13=>
 some (!v13)).bind fun v14=>
 (if v14 then some true else (b6a a0.Span).bind fun v15=>
 some (!v15)).bind fun v16=>
 if v16 then
 some false
 else
 (a13 g0s v1).bind fun v17=>
 (a89 v17 a0.Share 1 100).bind fun v18=>
 (if (!v18) then some true else (a13 g2r v1).bind fun v19=>
 (a89 v19 a0.Currency 1 999).bind fun v20=>
 some (!v20)).bind fun v21=>
 (if v21 then some true else (a13 g3c v1).bind fun v22=>
 (a89 v22 a0.Amount 0 1000000000).bind fun v23=>
 some (!v23)).bind fun v24=>
 (if v24 then some true else (a13 g11 v1).bind fun v25=>
 (a89 v25 a0.Ref 1 99).bind fun v26=>
 some (!v26)).bind fun v27=>
 if v27 then
 some false
 else
 if (a0.Kind==4) then
 some (a0.State != a0.Seat)
 else
 if (a0.Kind==11) then
 joinC b86 (a0,a0.Kind,a0.Kind==11)
 else
 joinC b86 (a0,a0.Kind,a0.Kind==12)
def a3t (a0:Int):Option Bool:=
 some (a0 != a0)
def k6 (a0:Int) (a1:Int):Option Int:=
 (a3t a0).bind fun v1=>
 (a3t a1).bind fun v2=>
 if v1 then
 if v2 then
 some 0
 else
 some (-1:Int)
 else
 if v2 then
 some 1
 else
 if (decide (a0<a1)) then
 some (-1:Int)
 else
 if (decide (a0>a1)) then
 some 1
 else
 some 0
def a55 (a0:List Int) (r2:Int -> Option Int) (v1:Int):Option Int:=
 if (decide (v1<(a0.length:Int))) then
 (c8 a0 v1).bind fun v3=>
 if (v3 != 0) then
 some v3
 else
 r2 (i64 (v1+1))
 else
 some 0
def a3c (a0:List Int):Option Int:=
 d8 FU (a55 a0) 0
def a8g (a0:api_Fact) (a1:api_Fact):Option Int:=
 (k6 a0.Issuer a1.Issuer).bind fun v1=>
 (k6 a0.Number a1.Number).bind fun v2=>
 (a3c [v1,v2]).bind fun v3=>
 some v3
def a7q (v3:Int) (r2:((List Int)×Int) -> Option (List Int)) (v1:(List Int)×Int) (r5:((List Int)×Int) -> Option (List Int)) (v4:(List Int)×Int):Option (List Int):=
 if (decide (v4.2 >= 0)) then
 (e0t .i64 v3 (i64 (8*v4.2))).bind fun v6=>
 (a9h 1 v4.1 [IntKind.u8.wrap (v6)]).bind fun v7=>
 r5 (v7,i64 (v4.2-1))
 else
 r2 (v4.1,i64 (v1.2+1))
def a5g (a2:List Int) (a1:Int) (r2:((List Int)×Int) -> Option (List Int)) (v1:(List Int)×Int):Option (List Int):=
 if (decide (v1.2<(a2.length:Int))) then
 (c8 a2 v1.2).bind fun v3=>
 d8 FU (a7q v3 r2 v1) (v1.1,i64 (a1-1))
 else
 some v1.1
def l9 (a0:List Int) (a1:Int) (a2:List Int):Option (List Int):=
 d8 FU (a5g a2 a1) (a0,0)
def b40 (r8:(api_Fact×(List Int)×(ByteArray×Int)) -> Option (List Int)) (v7:api_Fact×(List Int)×(ByteArray×Int)):Option (List Int):=
 optC (c6q v7.2.2.1 v7.2.2.2) (some v7.2.1) fun v9=>
 (v9).bind fun v10=>
 if (v10==83) then
 (l9 v7.2.1 1 [v7.1.State]).bind fun v11=>
 r8 (v7.1,v11,(v7.2.2.1,v7.2.2.2+1))
 else
 if (v10==80) then
 (l9 v7.2.1 3 [v7.1.Span.From,v7.1.Span.To]).bind fun v12=>
 r8 (v7.1,v12,(v7.2.2.1,v7.2.2.2+1))
 else
 if (v10==84) then
 (l9 v7.2.1 1 [v7.1.Seat]).bind fun v13=>
 r8 (v7.1,v13,(v7.2.2.1,v7.2.2.2+1))
 else
 if (v10==72) then
 (l9 v7.2.1 1 [v7.1.Share]).bind fun v14=>
 r8 (v7.1,v14,(v7.2.2.1,v7.2.2.2+1))
 else
 if (v10==67) then
 (l9 v7.2.1 2 [v7.1.Currency]).bind fun v15=>
 r8 (v7.1,v15,(v7.2.2.1,v7.2.2.2+1))
 else
 if (v10==65) then
 (l9 v7.2.1 4 [v7.1.Amount]).bind fun v16=>
 r8 (v7.1,v16,(v7.2.2.1,v7.2.2.2+1))
 else
 if (v10==82) then
 (l9 v7.2.1 1 [v7.1.Ref]).bind fun v17=>
 r8 (v7.1,v17,(v7.2.2.1,v7.2.2.2+1))
 else
 r8 (v7.1,v7.2.1,(v7.2.2.1,v7.2.2.2+1))
def b41 (v2:api_Fact×Int):Option (List Int):=
 (l9 [] 1 [v2.1.Issuer]).bind fun v3=>
 (l9 v3 2 [v2.1.Number]).bind fun v4=>
 (l9 v4 1 [v2.1.Version,v2.2,v2.1.Person,v2.1.Kind]).bind fun v5=>
 (b0u v2.1.Kind).bind fun v6=>
 d8 FU b40 (v2.1,v5,(v6,0))
def b6y (a0:api_Fact):Option (List Int):=
 (a5t a0).bind fun v1=>
 if (!v1) then
 some []
 else
 if a0.Withdrawn then
 joinC b41 (a0,1)
 else
 joinC b41 (a0,0)
def b7q (a0:List Int) (a1:List Int):Option Int:=
 (b4j a0 a1).bind fun v1=>
 some v1
def c3a (a0:api_Fact) (a1:api_Fact):Option Bool:=
 (a5t a0).bind fun v1=>
 (if (!v1) then some true else (a5t a1).bind fun v2=>
 some (!v2)).bind fun v3=>
 if v3 then
 some false
 else
 (b6y a0).bind fun v4=>
 (b6y a1).bind fun v5=>
 (b7q v4 v5).bind fun v6=>
 some (decide (v6<0))
def b22 (a0:api_Fact) (a1:api_Fact):Option api_Fact:=
 (c3a a0 a1).bind fun v1=>
 if v1 then
 some a1
 else
 some a0
def g9 (r2:((List api_Fact)×(List api_Fact)×(List api_Fact)) -> Option (List api_Fact)) (v1:(List api_Fact)×(List api_Fact)×(List api_Fact)):Option (List api_Fact):=
 (if (decide ((v1.1.length:Int)>0)) then some (decide ((v1.2.1.length:Int)>0)) else some false).bind fun v3=>
 if v3 then
 (c8 v1.1 0).bind fun v4=>
 (c8 v1.2.1 0).bind fun v5=>
 (a8g v4 v5).bind fun v6=>
 if (decide (v6<0)) then
 (c8 v1.1 0).bind fun v7=>
 (a9h 112 v1.2.2 [v7]).bind fun v8=>
 (a1q v1.1 1 (v1.1.length:Int)).bind fun v9=>
 r2 (v9,v1.2.1,v8)
 else
 if (decide (v6>0)) then
 (c8 v1.2.1 0).bind fun v10=>
 (a9h 112 v1.2.2 [v10]).bind fun v11=>
 (a1q v1.2.1 1 (v1.2.1.length:Int)).bind fun v12=>
 r2 (v1.1,v12,v11)
 else
 (c8 v1.1 0).bind fun v13=>
 (c8 v1.2.1 0).bind fun v14=>
 (b22 v13 v14).bind fun v15=>
 (a9h 112 v1.2.2 [v15]).bind fun v16=>
 (a1q v1.1 1 (v1.1.length:Int)).bind fun v17=>
 (a1q v1.2.1 1 (v1.2.1.length:Int)).bind fun v18=>
 r2 (v17,v18,v16)
 else
 (a9h 112 v1.2.2 v1.1).bind fun v19=>
 (a9h 112 v19 v1.2.1).bind fun v20=>
 some v20
def i6 (a0:List api_Fact) (a1:List api_Fact):Option (List api_Fact):=
 d8 FU g9 (a0,a1,[])
def a6p (a0:List api_Fact) (r2:((List api_Fact)×Int) -> Option (List api_Fact)) (v1:(List api_Fact)×Int):Option (List api_Fact):=
 if (decide (v1.2<(a0.length:Int))) then
 (c8 a0 v1.2).bind fun v3=>
 (a5t v3).bind fun v4=>
 if v4 then
 (i6 v1.1 [v3]).bind fun v5=>
 r2 (v5,i64 (v1.2+1))
 else
 r2 (v1.1,i64 (v1.2+1))
 else
 some v1.1
def a6x (a0:List api_Fact):Option (List api_Fact):=
 d8 FU (a6p a0) ([],0)
def b2o (a0:List api_Fact) (a1:List api_Fact):Option (List api_Fact):=
 (a6x a0).bind fun v1=>
 (a6x a1).bind fun v2=>
 (i6 v1 v2).bind fun v3=>
 some v3
def c25 (a0:api_Fact) (a1:Int):Option Bool:=
 some (a0.Person==a1)
def a3h (a0:List api_Fact) (a1_0:Int) (r2:((List api_Fact)×Int) -> Option (List api_Fact)) (v1:(List api_Fact)×Int):Option (List api_Fact):=
 if (decide (v1.2<(a0.length:Int))) then
 (c8 a0 v1.2).bind fun v3=>
 (c25 v3 a1_0).bind fun v4=>
 if v4 then
 (a9h 112 v1.1 [v3]).bind fun v5=>
 r2 (v5,i64 (v1.2+1))
 else
 r2 (v1.1,i64 (v1.2+1))
 else
 some v1.1
def a4m (a0:List api_Fact) (a1_0:Int):Option (List api_Fact):=
 d8 FU (a3h a0 a1_0) ([],0)
def b4c (a0:List api_Fact) (a1:Int):Option (List api_Fact):=
 (a4m a0 a1).bind fun v1=>
 some v1
def a26 (a0:Int):Option Int:=
 if (decide ((i64 (a0-1900))>0)) then
 (b55 (i64 ((i64 (a0-1900))-1)) 4).bind fun v1=>
 some (i64 ((i64 (365*(i64 (a0-1900))))+v1))
 else
 some (i64 (365*(i64 (a0-1900))))
def a4r (a0:Int):Option Int:=
 (b3v a0).bind fun v1=>
 if v1 then
 some 366
 else
 some 365
def b2w (v3:Int) (r9:(Int×Int) -> Option (Int×Int×Int×Bool)) (v8:Int×Int):Option (Int×Int×Int×Bool):=
 (a04 v3 v8.1).bind fun v10=>
 if (decide (v8.2 >= v10)) then
 (a04 v3 v8.1).bind fun v11=>
 r9 (i64 (v8.1+1),i64 (v8.2-v11))
 else
 some (v3,v8.1,i64 (v8.2+1),true)
def b32 (a0:Int) (r4:Int -> Option (Int×Int×Int×Bool)) (v3:Int):Option (Int×Int×Int×Bool):=
 (a26 v3).bind fun v5=>
 (a4r v3).bind fun v6=>
 if (decide ((i64 (v5+v6)) <= a0)) then
 r4 (i64 (v3+1))
 else
 (a26 v3).bind fun v7=>
 d8 FU (b2w v3) (1,i64 (a0-v7))
def b07 (a0:Int):Option (Int×Int×Int×Bool):=
 (a4h a0).bind fun v1=>
 if (!v1) then
 some (0,0,0,false)
 else
 (b55 a0 366).bind fun v2=>
 d8 FU (b32 a0) (i64 (1900+v2))
def a70 (a0:Int):Option Int:=
 (b07 a0).bind fun v1=>
 if (!v1.2.2.2) then
 some (-1:Int)
 else
 some (i64 ((i64 ((i64 (12*(i64 (v1.1-1900))))+v1.2.1))-1))
def b4k (a1:Int) (a0:Int) (r9:(Int×Int) -> Option (Int×Bool)) (v8:Int×Int):Option (Int×Bool):=
 if (decide (v8.2<a1)) then
 (a04 a0 v8.2).bind fun v10=>
 r9 (i64 (v8.1+v10),i64 (v8.2+1))
 else
 some (v8.1,true)
def a9t (a0:Int) (a1:Int) (a2:Int):Option (Int×Bool):=
 (if (decide (a0<1900)) then some true else some (decide (a0>2099))).bind fun v1=>
 (if v1 then some true else some (decide (a1<1))).bind fun v2=>
 (if v2 then some true else some (decide (a1>12))).bind fun v3=>
 (if v3 then some true else some (decide (a2<1))).bind fun v4=>
 (if v4 then some true else (a04 a0 a1).bind fun v5=>
 some (decide (a2>v5))).bind fun v6=>
 if v6 then
 some (0,false)
 else
 (a26 a0).bind fun v7=>
 d8 FU (b4k a1 a0) (i64 ((i64 (v7+a2))-1),1)
def a35 (a0:Int):Option (Int×Bool):=
 (a4q a0).bind fun v1=>
 if (!v1) then
 some (0,false)
 else
 (b55 a0 12).bind fun v2=>
 (b5l a0 12).bind fun v3=>
 (a9t (i64 (1900+v2)) (i64 (v3+1)) 1).bind fun v4=>
 some (v4.1,v4.2)
def b1v (v3:Int):Option (Int×Bool):=
 if (decide (v3>2399)) then
 some (0,false)
 else
 some (v3,true)
def a1j (a0:Claim):Option (Int×Bool):=
 (a70 a0.Day).bind fun v1=>
 if (decide (v1<0)) then
 some (0,false)
 else
 (a35 v1).bind fun v2=>
 if (decide (v2.1<a0.Day)) then
 joinC b1v (i64 (v1+1))
 else
 joinC b1v v1
def b1y (v9:Claim):Option Bool:=
 (a1j v9).bind fun v10=>
 some v10.2
def a8j (v11:Claim×Bool):Option Bool:=
 if v11.2 then
 if (v11.1.Ref != 0) then
 some false
 else
 joinC b1y v11.1
 else
 some false
def b20 (v6:Claim×Int×Bool):Option Bool:=
 if v6.2.2 then
 (if (decide (v6.1.Ref<1)) then some true else some (decide (v6.1.Ref>99))).bind fun v7=>
 (if v7 then some true else some (v6.1.Ref==v6.1.Person)).bind fun v8=>
 if v8 then
 some false
 else
 joinC b1y v6.1
 else
 if (v6.2.1==1) then
 joinC a8j (v6.1,v6.2.1==1)
 else
 if (v6.2.1==2) then
 joinC a8j (v6.1,v6.2.1==2)
 else
 joinC a8j (v6.1,v6.2.1==5)
def a5m (a0:Claim):Option Bool:=
 (if (decide (a0.Issuer<0)) then some true else some (decide (a0.Issuer >= 6))).bind fun v1=>
 (if v1 then some true else some (decide (a0.Number<1))).bind fun v2=>
 (if v2 then some true else some (decide (a0.Number>999))).bind fun v3=>
 (if v3 then some true else some (decide (a0.Person<1))).bind fun v4=>
 (if v4 then some true else some (decide (a0.Person>99))).bind fun v5=>
 if v5 then
 some false
 else
 if (a0.Benefit==3) then
 joinC b20 (a0,a0.Benefit,a0.Benefit==3)
 else
 joinC b20 (a0,a0.Benefit,a0.Benefit==4)
def c0j (a0:Int):Option Int:=
 (c4z a0).bind fun v1=>
 some v1
def b2e (a0:Int):Option Int:=
 (c0j (u64 (a0))).bind fun v1=>
 (e9r .u64 1 v1).bind fun v2=>
 some v2
def b3o (a0:Int):Option (Int×Int):=
 (e9r .u64 a0 13).bind fun v1=>
 (e0t .u64 (e2i .u64 a0 v1) 7).bind fun v2=>
 (e9r .u64 (e2i .u64 (e2i .u64 a0 v1) v2) 17).bind fun v3=>
 some (e2i .u64 (e2i .u64 (e2i .u64 a0 v1) v2) v3,e2i .u64 (e2i .u64 (e2i .u64 a0 v1) v2) v3)
def a3x (a0:Claim) (a1:Claim):Option Int:=
 (k6 a0.Issuer a1.Issuer).bind fun v1=>
 (k6 a0.Number a1.Number).bind fun v2=>
 (k6 a0.Day a1.Day).bind fun v3=>
 (k6 a0.Person a1.Person).bind fun v4=>
 (k6 a0.Benefit a1.Benefit).bind fun v5=>
 (k6 a0.Ref a1.Ref).bind fun v6=>
 (a3c [v1,v2,v3,v4,v5,v6]).bind fun v7=>
 some v7
def a08 (r9:((List Claim)×Int×Int×(Int×Nat)) -> Option (List Claim)) (v8:(List Claim)×Int×Int×(Int×Nat)):Option (List Claim):=
 if (decide (v8.2.2.1<(v8.2.2.2.2:Int))) then
 (c1h v8.1 v8.2.2.2.1 v8.2.2.1).bind fun v10=>
 (c8 v8.1 (v8.2.2.2.1+v8.2.2.1)).bind fun v11=>
 (c1h v8.1 v8.2.2.2.1 (i64 (v8.2.2.1-1))).bind fun v12=>
 (c8 v8.1 (v8.2.2.2.1+(i64 (v8.2.2.1-1)))).bind fun v13=>
 if (!((v11.Issuer==v13.Issuer)&&((v11.Number==v13.Number)&&((v11.Person==v13.Person)&&((v11.Benefit==v13.Benefit)&&((v11.Ref==v13.Ref)&&((v11.Day==v13.Day)&&(true)))))))) then
 (c1h v8.1 v8.2.2.2.1 v8.2.2.1).bind fun v14=>
 (c8 v8.1 (v8.2.2.2.1+v8.2.2.1)).bind fun v15=>
 (c8 v8.1 v8.2.1).bind fun v16=>
 (c8 v8.1 v8.2.1).bind fun v17=>
 r9 (a1c v8.1 v8.2.1 v15,i64 (v8.2.1+1),i64 (v8.2.2.1+1),(v8.2.2.2.1,v8.2.2.2.2))
 else
 r9 (v8.1,v8.2.1,i64 (v8.2.2.1+1),(v8.2.2.2.1,v8.2.2.2.2))
 else
 (a1q v8.1 v8.2.1 (v8.1.length:Int)).bind fun v18=>
 (f9m (⟨0,0,0,0,0,0⟩:Claim) v8.1 v8.2.1 v18.length).bind fun v19=>
 (a1q v19 0 v8.2.1).bind fun v20=>
 some v20
def w7 (r2:((List Claim)×Int) -> Option (List Claim)) (v1:(List Claim)×Int):Option (List Claim):=
 if (decide (v1.2<(v1.1.length:Int))) then
 (c8 v1.1 v1.2).bind fun v3=>
 (c8 v1.1 v1.2).bind fun v4=>
 (c8 v1.1 (i64 (v1.2-1))).bind fun v5=>
 (c8 v1.1 (i64 (v1.2-1))).bind fun v6=>
 if ((v4.Issuer==v6.Issuer)&&((v4.Number==v6.Number)&&((v4.Person==v6.Person)&&((v4.Benefit==v6.Benefit)&&((v4.Ref==v6.Ref)&&((v4.Day==v6.Day)&&(true))))))) then
 (a1q v1.1 v1.2 (v1.1.length:Int)).bind fun v7=>
 d8 FU a08 (v1.1,v1.2,1,(v1.2,v7.length))
 else
 r2 (v1.1,i64 (v1.2+1))
 else
 some v1.1
def a28 (a0:List Claim):Option (List Claim):=
 if (decide ((a0.length:Int)<2)) then
 some a0
 else
 d8 FU w7 (a0,1)
def a2i (a1:Int) (r2:((List Claim)×Int) -> Option (List Claim)) (v1:(List Claim)×Int) (r4:((List Claim)×Int) -> Option (List Claim)) (v3:(List Claim)×Int):Option (List Claim):=
 (if (decide (v3.2>a1)) then (c8 v3.1 v3.2).bind fun v5=>
 (c8 v3.1 v3.2).bind fun v6=>
 (c8 v3.1 (i64 (v3.2-1))).bind fun v7=>
 (c8 v3.1 (i64 (v3.2-1))).bind fun v8=>
 (a3x v6 v8).bind fun v9=>
 some (decide (v9<0)) else some false).bind fun v10=>
 if v10 then
 (c8 v3.1 (i64 (v3.2-1))).bind fun v11=>
 (c8 v3.1 (i64 (v3.2-1))).bind fun v12=>
 (c8 v3.1 v3.2).bind fun v13=>
 (c8 v3.1 v3.2).bind fun v14=>
 (c8 v3.1 v3.2).bind fun v15=>
 (c8 v3.1 v3.2).bind fun v16=>
 (c8 (a1c v3.1 v3.2 v12) (i64 (v3.2-1))).bind fun v17=>
 (c8 (a1c v3.1 v3.2 v12) (i64 (v3.2-1))).bind fun v18=>
 r4 (a1c (a1c v3.1 v3.2 v12) (i64 (v3.2-1)) v14,i64 (v3.2-1))
 else
 r2 (v3.1,i64 (v1.2+1))
def a2j (a2:Int) (a1:Int) (r2:((List Claim)×Int) -> Option (List Claim)) (v1:(List Claim)×Int):Option (List Claim):=
 if (decide (v1.2<a2)) then
 d8 FU (a2i a1 r2 v1) (v1.1,v1.2)
 else
 some v1.1
def q0 (a0:List Claim) (a1:Int) (a2:Int):Option (List Claim):=
 d8 FU (a2j a2 a1) (a0,i64 (a1+1))
structure Ring_slices_pdqsortCmpFunc_of_api_Claim_c_decision_compare where
 f_slices_pdqsortCmpFunc_of_api_Claim:(List Claim) -> Int -> Int -> Int -> Option (List Claim)
def a3j (R:Ring_slices_pdqsortCmpFunc_of_api_Claim_c_decision_compare) (v4:(List Claim)×Int×Int×Int×Unit×Bool×Bool×Int):Option (List Claim):=
 none
def m4 (R:Ring_slices_pdqsortCmpFunc_of_api_Claim_c_decision_compare) (r2:((List Claim)×Int×Int×Int×Bool×Bool) -> Option (List Claim)) (v1:(List Claim)×Int×Int×Int×Bool×Bool):Option (List Claim):=
 if (decide ((i64 (v1.2.2.1-v1.2.1)) <= 12)) then
 (q0 v1.1 v1.2.1 v1.2.2.1).bind fun v3=>
 some v3
 else
 if (v1.2.2.2.1==0) then
 none
 else
 if (!v1.2.2.2.2.1) then
 none
 else
 joinC (a3j R) (v1.1,v1.2.1,v1.2.2.1,v1.2.2.2.1,(),v1.2.2.2.2.1,v1.2.2.2.2.2,i64 (v1.2.2.1-v1.2.1))
def m6 (R:Ring_slices_pdqsortCmpFunc_of_api_Claim_c_decision_compare) (a0:List Claim) (a1:Int) (a2:Int) (a3:Int):Option (List Claim):=
 d8 FU (m4 R) (a0,a1,a2,a3,true,true)
def c9:Nat -> Ring_slices_pdqsortCmpFunc_of_api_Claim_c_decision_compare
 | 0=>⟨fun _ _ _ _=>none⟩
 | n+1=>⟨m6 (c9 n)⟩
def a0o (a0:List Claim) (a1:Int) (a2:Int) (a3:Int):Option (List Claim):=(c9 FU).f_slices_pdqsortCmpFunc_of_api_Claim a0 a1 a2 a3
def m5 (a0:List Claim):Option (List Claim):=
 (c0j (u64 ((a0.length:Int)))).bind fun v1=>
 (a0o a0 0 (a0.length:Int) v1).bind fun v2=>
 some v2
def a7n (a0:List Claim) (r2:((List Claim)×Int) -> Option (List Claim)) (v1:(List Claim)×Int):Option (List Claim):=
 if (decide (v1.2<(a0.length:Int))) then
 (c8 a0 v1.2).bind fun v3=>
 (a5m v3).bind fun v4=>
 if v4 then
 (a9h 48 v1.1 [v3]).bind fun v5=>
 r2 (v5,i64 (v1.2+1))
 else
 r2 (v1.1,i64 (v1.2+1))
 else
 (m5 v1.1).bind fun v6=>
 (a28 v6).bind fun v7=>
 some v7
def b0q (a0:List Claim):Option (List Claim):=
 d8 FU (a7n a0) ([],0)
def b3y (a0:Laws) (a1:List api_Fact) (a2:List Claim) (a3:Int):Option (Option decision_file):=
 (b2o a1 []).bind fun v1=>
 (b4c v1 a3).bind fun v2=>
 (b0q a2).bind fun v3=>
 some (some (⟨a0,v1,v2,v3,a3⟩:decision_file))
def a7d (a0:decision_file) (r2:(Int×Bool×Int) -> Option (Int×Bool)) (v1:Int×Bool×Int):Option (Int×Bool):=
 if (decide (v1.2.2<(a0.claims.length:Int))) then
 (c8 a0.claims v1.2.2).bind fun v3=>
 if (v3.Person != a0.person) then
 r2 (v1.1,v1.2.1,i64 (v1.2.2+1))
 else
 (a1j v3).bind fun v4=>
 (if (!v1.2.1) then some true else some (decide (v4.1<v1.1))).bind fun v5=>
 if v5 then
 r2 (v4.1,true,i64 (v1.2.2+1))
 else
 r2 (v1.1,v1.2.1,i64 (v1.2.2+1))
 else
 some (v1.1,v1.2.1)
def a6r (a0:decision_file):Option (Int×Bool):=
 d8 FU (a7d a0) (0,false,0)
def b9l (v5:Laws×transition_law×transition_law×Int):Option transition_law:=
 none
def b9k (a0:Laws) (a1:Int) (v1:Int×Bool) (r3:(Laws×transition_law×transition_law×Int) -> Option transition_law) (v2:Laws×transition_law×transition_law×Int):Option transition_law:=
 if (decide (v2.2.2.2<(a0.States.length:Int))) then
 (c8 a0.States v2.2.2.2).bind fun v4=>
 if (v4.State==a1) then
 none
 else
 r3 (v2.1,v2.2.1,v2.2.2.1,i64 (v2.2.2.2+1))
 else
 joinC b9l (v2.1,v2.2.1,v2.2.2.1,v1.1)
def b0r (a0:Laws) (a1:Int) (a2:Int):Option transition_law:=
 (a35 a2).bind fun v1=>
 d8 FU (b9k a0 a1 v1) (a0,(⟨0,0⟩:transition_law),(⟨(-1:Int),(-1:Int)⟩:transition_law),0)
def b8x (a3:Int) (a1:Int) (r3:(Laws×(List Int)×transition_law×Int) -> Option (List Int)) (v2:Laws×(List Int)×transition_law×Int):Option (List Int):=
 if (decide (v2.2.2.2 <= (min a3 2399))) then
 (b0r v2.1 a1 v2.2.2.2).bind fun v4=>
 if (!((v4.version==v2.2.2.1.version)&&((v4.rules==v2.2.2.1.rules)&&(true)))) then
 (a9h 8 v2.2.1 [v2.2.2.2]).bind fun v5=>
 r3 (v2.1,v5,v4,i64 (v2.2.2.2+1))
 else
 r3 (v2.1,v2.2.1,v4,i64 (v2.2.2.2+1))
 else
 some v2.2.1
def b5b (a0:Laws) (a1:Int) (a2:Int) (a3:Int):Option (List Int):=
 if (decide ((max a2 0) >= (min a3 2399))) then
 some []
 else
 (b0r a0 a1 (max a2 0)).bind fun v1=>
 d8 FU (b8x a3 a1) (a0,[],v1,i64 ((max a2 0)+1))
def b36 (a0:Claim) (a1:Int):Option Bool:=
 (a1j a0).bind fun v1=>
 some (decide (v1.1 <= a1))
def b3h (a0:Claim) (a1:Claim):Option Int:=
 (k6 a0.Benefit a1.Benefit).bind fun v1=>
 (k6 a0.Ref a1.Ref).bind fun v2=>
 (a3c [v1,v2]).bind fun v3=>
 some v3
def a1o (a1:Int) (r2:((List Claim)×Int) -> Option (List Claim)) (v1:(List Claim)×Int) (r4:((List Claim)×Int) -> Option (List Claim)) (v3:(List Claim)×Int):Option (List Claim):=
 (if (decide (v3.2>a1)) then (c8 v3.1 v3.2).bind fun v5=>
 (c8 v3.1 v3.2).bind fun v6=>
 (c8 v3.1 (i64 (v3.2-1))).bind fun v7=>
 (c8 v3.1 (i64 (v3.2-1))).bind fun v8=>
 (b3h v6 v8).bind fun v9=>
 some (decide (v9<0)) else some false).bind fun v10=>
 if v10 then
 (c8 v3.1 (i64 (v3.2-1))).bind fun v11=>
 (c8 v3.1 (i64 (v3.2-1))).bind fun v12=>
 (c8 v3.1 v3.2).bind fun v13=>
 (c8 v3.1 v3.2).bind fun v14=>
 (c8 v3.1 v3.2).bind fun v15=>
 (c8 v3.1 v3.2).bind fun v16=>
 (c8 (a1c v3.1 v3.2 v12) (i64 (v3.2-1))).bind fun v17=>
 (c8 (a1c v3.1 v3.2 v12) (i64 (v3.2-1))).bind fun v18=>
 r4 (a1c (a1c v3.1 v3.2 v12) (i64 (v3.2-1)) v14,i64 (v3.2-1))
 else
 r2 (v3.1,i64 (v1.2+1))
def a1p (a2:Int) (a1:Int) (r2:((List Claim)×Int) -> Option (List Claim)) (v1:(List Claim)×Int):Option (List Claim):=
 if (decide (v1.2<a2)) then
 d8 FU (a1o a1 r2 v1) (v1.1,v1.2)
 else
 some v1.1
def o5 (a0:List Claim) (a1:Int) (a2:Int):Option (List Claim):=
 d8 FU (a1p a2 a1) (a0,i64 (a1+1))
def a2x (a1:Int) (v5:(List Claim)×Int) (r6:((List Claim)×Int) -> Option (List Claim)) (r8:((List Claim)×Int×Int) -> Option (List Claim)) (v7:(List Claim)×Int×Int):Option (List Claim):=
 if (decide (v7.2.2 <= a1)) then
 none
 else
 if (decide ((i64 (v7.2.1+v5.2))<a1)) then
 none
 else
 r6 (v7.1,i64 (v5.2*2))
def a2z (a1:Int) (r6:((List Claim)×Int) -> Option (List Claim)) (v5:(List Claim)×Int):Option (List Claim):=
 if (decide (v5.2<a1)) then
 d8 FU (a2x a1 v5 r6) (v5.1,0,i64 (2*v5.2))
 else
 some v5.1
def a2y (a1:Int) (r2:((List Claim)×Int×Int) -> Option (List Claim)) (v1:(List Claim)×Int×Int):Option (List Claim):=
 if (decide (v1.2.2 <= a1)) then
 (o5 v1.1 v1.2.1 v1.2.2).bind fun v3=>
 r2 (v3,v1.2.2,i64 (v1.2.2+20))
 else
 (o5 v1.1 v1.2.1 a1).bind fun v4=>
 d8 FU (a2z a1) (v4,20)
def a0f (a0:List Claim) (a1:Int):Option (List Claim):=
 d8 FU (a2y a1) (a0,0,20)
def a0b (a0:List Claim):Option (List Claim):=
 (a0f a0 (a0.length:Int)).bind fun v1=>
 some v1
def b9y (a0:List Claim) (a2:Int) (a1:Int) (r2:((List Claim)×(Ar 6 Bool)×(Ar 100 Bool)×Int) -> Option (List Claim)) (v1:(List Claim)×(Ar 6 Bool)×(Ar 100 Bool)×Int):Option (List Claim):=
 if (decide (v1.2.2.2<(a0.length:Int))) then
 (c8 a0 v1.2.2.2).bind fun v3=>
 if (v3.Benefit==4) then
 (b36 v3 a2).bind fun v4=>
 (if v4 then (c8 v1.2.2.1.l v3.Ref).bind fun v5=>
 (c8 v1.2.2.1.l v3.Ref).bind fun v6=>
 some (!v6) else some false).bind fun v7=>
 if v7 then
 (c8 v1.2.2.1.l v3.Ref).bind fun v8=>
 (c8 v1.2.2.1.l v3.Ref).bind fun v9=>
 if (v3.Person==a1) then
 (a9h 48 v1.1 [v3]).bind fun v10=>
 r2 (v10,v1.2.1,Ar.set v1.2.2.1 v3.Ref true,i64 (v1.2.2.2+1))
 else
 r2 (v1.1,v1.2.1,Ar.set v1.2.2.1 v3.Ref true,i64 (v1.2.2.2+1))
 else
 r2 (v1.1,v1.2.1,v1.2.2.1,i64 (v1.2.2.2+1))
 else
 (if (v3.Person==a1) then (c8 v1.2.1.l v3.Benefit).bind fun v11=>
 (c8 v1.2.1.l v3.Benefit).bind fun v12=>
 some (!v12) else some false).bind fun v13=>
 if v13 then
 (c8 v1.2.1.l v3.Benefit).bind fun v14=>
 (c8 v1.2.1.l v3.Benefit).bind fun v15=>
 (b36 v3 a2).bind fun v16=>
 if v16 then
 (a9h 48 v1.1 [v3]).bind fun v17=>
 r2 (v17,Ar.set v1.2.1 v3.Benefit true,v1.2.2.1,i64 (v1.2.2.2+1))
 else
 r2 (v1.1,Ar.set v1.2.1 v3.Benefit true,v1.2.2.1,i64 (v1.2.2.2+1))
 else
 r2 (v1.1,v1.2.1,v1.2.2.1,i64 (v1.2.2.2+1))
 else
 (a0b v1.1).bind fun v18=>
 some v18
def b5r (a0:List Claim) (a1:Int) (a2:Int):Option (List Claim):=
 d8 FU (b9y a0 a2 a1) ([],(arZ 6 false:Ar 6 Bool),(arZ 100 false:Ar 100 Bool),0)
def b6e (v1:List Claim) (a1:Int) (r3:((List Claim)×(List Claim)×Int) -> Option (List Claim)) (v2:(List Claim)×(List Claim)×Int):Option (List Claim):=
 if (decide (v2.2.2<(v1.length:Int))) then
 (c8 v2.2.1 v2.2.2).bind fun v4=>
 (c8 v2.2.1 v2.2.2).bind fun v5=>
 if (v5.Benefit==a1) then
 (a9h 48 v2.1 [v5]).bind fun v6=>
 r3 (v6,v2.2.1,i64 (v2.2.2+1))
 else
 r3 (v2.1,v2.2.1,i64 (v2.2.2+1))
 else
 some v2.1
def a4w (a0:decision_file) (a1:Int) (a2:Int):Option (List Claim):=
 (b5r a0.claims a0.person a2).bind fun v1=>
 d8 FU (b6e v1 a1) ([],v1,0)
def b6d (a0:api_Fact):Option Bool:=
 (a5t a0).bind fun v1=>
 (if v1 then some (!a0.Withdrawn) else some false).bind fun v2=>
 some v2
def c73 (a0:List api_Fact) (a1:Int) (r2:(Int×Bool×Int) -> Option (Int×Bool)) (v1:Int×Bool×Int):Option (Int×Bool):=
 if (decide (v1.2.2<(a0.length:Int))) then
 (c8 a0 v1.2.2).bind fun v3=>
 (b6d v3).bind fun v4=>
 (if v4 then some (v3.Kind==a1) else some false).bind fun v5=>
 (if v5 then (if (!v1.2.1) then some true else some (decide (v3.Span.From<v1.1))).bind fun v6=>
 some v6 else some false).bind fun v7=>
 if v7 then
 r2 (v3.Span.From,true,i64 (v1.2.2+1))
 else
 r2 (v1.1,v1.2.1,i64 (v1.2.2+1))
 else
 some (v1.1,v1.2.1)
def c5m (a0:List api_Fact) (a1:Int):Option (Int×Bool):=
 d8 FU (c73 a0 a1) (0,false,0)
def b8y (a0:List api_Fact):Option (Int×Bool):=
 (c5m a0 12).bind fun v1=>
 some (v1.1,v1.2)
def b46 (a0:decision_file) (a1:Int):Option Bool:=
 (b8y a0.own).bind fun v1=>
 (if (!v1.2) then some true else some (decide (v1.1 >= a1))).bind fun v2=>
 some v2
def a9w (a0:List api_Fact) (r2:((List api_Fact)×Int) -> Option (List api_Fact)) (v1:(List api_Fact)×Int):Option (List api_Fact):=
 if (decide (v1.2<(a0.length:Int))) then
 (c8 a0 v1.2).bind fun v3=>
 (b6d v3).bind fun v4=>
 if v4 then
 (a9h 112 v1.1 [v3]).bind fun v5=>
 r2 (v5,i64 (v1.2+1))
 else
 r2 (v1.1,i64 (v1.2+1))
 else
 some v1.1
def a6c (a0:List api_Fact):Option (List api_Fact):=
 d8 FU (a9w a0) ([],0)
def c0y (a0:List api_Fact):Option (List api_Fact):=
 (a6c a0).bind fun v1=>
 some v1
def c5x (a0:List api_Fact):Option (List api_Fact):=
 (b2o a0 []).bind fun v1=>
 (c0y v1).bind fun v2=>
 some v2
def b5s (a0:List api_Fact) (a1:Int) (a2:Int):Option Bool:=
 (b4c a0 a1).bind fun v1=>
 (b8y v1).bind fun v2=>
 (if (!v2.2) then some true else some (decide (v2.1 >= a2))).bind fun v3=>
 some v3
def b9x (a0:api_Fact) (a1:Int) (a2:Int):Option Bool:=
 (if (a0.Kind==10) then some (a0.Ref==a1) else some false).bind fun v1=>
 (if v1 then some (decide (a0.Span.From <= a2)) else some false).bind fun v2=>
 (if v2 then some (decide (a2<a0.Span.To)) else some false).bind fun v3=>
 some v3
def a54 (a0:List api_Fact) (a1_0:Int) (a1_1:Int) (r2:Int -> Option Int) (v1:Int):Option Int:=
 if (decide (v1<(a0.length:Int))) then
 (c8 a0 v1).bind fun v3=>
 (b9x v3 a1_0 a1_1).bind fun v4=>
 if v4 then
 some v1
 else
 r2 (i64 (v1+1))
 else
 some (-1:Int)
def a1m (a0:List api_Fact) (a1_0:Int) (a1_1:Int):Option Int:=
 d8 FU (a54 a0 a1_0 a1_1) 0
def a1b (a0:List api_Fact) (a1_0:Int) (a1_1:Int):Option Bool:=
 (a1m a0 a1_0 a1_1).bind fun v1=>
 some (decide (v1 >= 0))
def c2w (a0:List api_Fact) (a1:Int) (a2:Int):Option Bool:=
 (a1b a0 a1 a2).bind fun v1=>
 some v1
def c4t (a1:Int) (a0:List api_Fact) (a2:Int) (r7:((List Int)×Int) -> Option (List Int)) (v6:(List Int)×Int):Option (List Int):=
 if (decide (v6.2 <= 99)) then
 if (v6.2 != a1) then
 (b4c a0 v6.2).bind fun v8=>
 (c2w v8 a1 a2).bind fun v9=>
 (if v9 then (b5s a0 v6.2 a2).bind fun v10=>
 some v10 else some false).bind fun v11=>
 if v11 then
 (a9h 8 v6.1 [v6.2]).bind fun v12=>
 r7 (v12,i64 (v6.2+1))
 else
 r7 (v6.1,i64 (v6.2+1))
 else
 (if false then (b5s a0 v6.2 a2).bind fun v13=>
 some v13 else some false).bind fun v14=>
 if v14 then
 (a9h 8 v6.1 [v6.2]).bind fun v15=>
 r7 (v15,i64 (v6.2+1))
 else
 r7 (v6.1,i64 (v6.2+1))
 else
 some v6.1
def c16 (a0:List api_Fact) (a1:Int) (a2:Int):Option (List Int):=
 (if (decide (a1<1)) then some true else some (decide (a1>99))).bind fun v1=>
 (if v1 then some true else some (decide (a2<0))).bind fun v2=>
 (if v2 then some true else some (decide (a2>73048))).bind fun v3=>
 (if v3 then some true else (b5s a0 a1 a2).bind fun v4=>
 some (!v4)).bind fun v5=>
 if v5 then
 some []
 else
 d8 FU (c4t a1 a0 a2) ([],1)
def c17 (a0:List api_Fact) (a1:Int) (a2:Int):Option (List Int):=
 (c5x a0).bind fun v1=>
 (c16 v1 a1 a2).bind fun v2=>
 some v2
def b8p (a0:List Int) (a1:Int) (r2:Int -> Option Int) (v1:Int):Option Int:=
 if (decide (v1<(a0.length:Int))) then
 (c8 a0 v1).bind fun v3=>
 if (a1==v3) then
 some v1
 else
 r2 (i64 (v1+1))
 else
 some (-1:Int)
def b4o (a0:List Int) (a1:Int):Option Int:=
 d8 FU (b8p a0 a1) 0
def b18 (a0:List Int) (a1:Int):Option Bool:=
 (b4o a0 a1).bind fun v1=>
 some (decide (v1 >= 0))
def a8v (a0:decision_file) (a1:Int) (a2:Int):Option Bool:=
 (c17 a0.facts a1 a2).bind fun v1=>
 (b18 v1 a0.person).bind fun v2=>
 some v2
def a9p (a0:Claim) (a1:decision_file) (a2:Int):Option Bool:=
 (a8v a1 a0.Ref a2).bind fun v1=>
 some v1
def a31 (a0:List Claim) (a1_0:decision_file) (a1_1:Int) (r2:Int -> Option Int) (v1:Int):Option Int:=
 if (decide (v1<(a0.length:Int))) then
 (c8 a0 v1).bind fun v3=>
 (a9p v3 a1_0 a1_1).bind fun v4=>
 if v4 then
 some v1
 else
 r2 (i64 (v1+1))
 else
 some (-1:Int)
def a0e (a0:List Claim) (a1_0:decision_file) (a1_1:Int):Option Int:=
 d8 FU (a31 a0 a1_0 a1_1) 0
def a06 (a0:List Claim) (a1_0:decision_file) (a1_1:Int):Option Bool:=
 (a0e a0 a1_0 a1_1).bind fun v1=>
 some (decide (v1 >= 0))
def a4x (a0:decision_file) (a1:Int) (a2:Int) (a3:Int):Option Bool:=
 (a4w a0 a1 a2).bind fun v1=>
 (if ((v1.length:Int)==0) then some true else (b46 a0 a3).bind fun v2=>
 some (!v2)).bind fun v3=>
 if v3 then
 some false
 else
 if (a1==2) then
 none
 else
 if (a1==3) then
 (c8 v1 0).bind fun v4=>
 (c8 v1 0).bind fun v5=>
 none
 else
 if (a1==4) then
 (a06 v1 a0 a3).bind fun v6=>
 some v6
 else
 some true
def u4 (a0:Int) (a1:Int):Option Bool:=
 (a3t a0).bind fun v1=>
 (if v1 then (a3t a1).bind fun v2=>
 some (!v2) else some false).bind fun v3=>
 (if v3 then some true else some (decide (a0<a1))).bind fun v4=>
 some v4
def a8w (a1:Int) (r2:((List Int)×Int) -> Option (List Int)) (v1:(List Int)×Int) (r4:((List Int)×Int) -> Option (List Int)) (v3:(List Int)×Int):Option (List Int):=
 (if (decide (v3.2>a1)) then (c8 v3.1 v3.2).bind fun v5=>
 (c8 v3.1 v3.2).bind fun v6=>
 (c8 v3.1 (i64 (v3.2-1))).bind fun v7=>
 (c8 v3.1 (i64 (v3.2-1))).bind fun v8=>
 (u4 v6 v8).bind fun v9=>
 some v9 else some false).bind fun v10=>
 if v10 then
 (c8 v3.1 (i64 (v3.2-1))).bind fun v11=>
 (c8 v3.1 (i64 (v3.2-1))).bind fun v12=>
 (c8 v3.1 v3.2).bind fun v13=>
 (c8 v3.1 v3.2).bind fun v14=>
 (c8 v3.1 v3.2).bind fun v15=>
 (c8 v3.1 v3.2).bind fun v16=>
 (c8 (a1c v3.1 v3.2 v12) (i64 (v3.2-1))).bind fun v17=>
 (c8 (a1c v3.1 v3.2 v12) (i64 (v3.2-1))).bind fun v18=>
 r4 (a1c (a1c v3.1 v3.2 v12) (i64 (v3.2-1)) v14,i64 (v3.2-1))
 else
 r2 (v3.1,i64 (v1.2+1))
def a8t (a2:Int) (a1:Int) (r2:((List Int)×Int) -> Option (List Int)) (v1:(List Int)×Int):Option (List Int):=
 if (decide (v1.2<a2)) then
 d8 FU (a8w a1 r2 v1) (v1.1,v1.2)
 else
 some v1.1
def a52 (a0:List Int) (a1:Int) (a2:Int):Option (List Int):=
 d8 FU (a8t a2 a1) (a0,i64 (a1+1))
def a5o (r2:((List Int)×Int) -> Option (List Int)) (v9:(List Int)×Int×Int×Int×Int):Option (List Int):=
 (c8 v9.1 (i64 (v9.2.2.1+v9.2.2.2.1))).bind fun v10=>
 (c8 v9.1 (i64 (v9.2.2.1+v9.2.2.2.1))).bind fun v11=>
 (c8 v9.1 (i64 (v9.2.2.1+v9.2.2.2.2))).bind fun v12=>
 (c8 v9.1 (i64 (v9.2.2.1+v9.2.2.2.2))).bind fun v13=>
 (u4 v11 v13).bind fun v14=>
 if (!v14) then
 some v9.1
 else
 (c8 v9.1 (i64 (v9.2.2.1+v9.2.2.2.2))).bind fun v15=>
 (c8 v9.1 (i64 (v9.2.2.1+v9.2.2.2.2))).bind fun v16=>
 (c8 v9.1 (i64 (v9.2.2.1+v9.2.2.2.1))).bind fun v17=>
 (c8 v9.1 (i64 (v9.2.2.1+v9.2.2.2.1))).bind fun v18=>
 (c8 v9.1 (i64 (v9.2.2.1+v9.2.2.2.1))).bind fun v19=>
 (c8 v9.1 (i64 (v9.2.2.1+v9.2.2.2.1))).bind fun v20=>
 (c8 (a1c v9.1 (i64 (v9.2.2.1+v9.2.2.2.1)) v16) (i64 (v9.2.2.1+v9.2.2.2.2))).bind fun v21=>
 (c8 (a1c v9.1 (i64 (v9.2.2.1+v9.2.2.2.1)) v16) (i64 (v9.2.2.1+v9.2.2.2.2))).bind fun v22=>
 r2 (a1c (a1c v9.1 (i64 (v9.2.2.1+v9.2.2.2.1)) v16) (i64 (v9.2.2.1+v9.2.2.2.2)) v18,v9.2.2.2.2)
def b0y (a2:Int) (a3:Int) (r2:((List Int)×Int) -> Option (List Int)) (v1:(List Int)×Int):Option (List Int):=
 if (decide ((i64 ((i64 (2*v1.2))+1)) >= a2)) then
 some v1.1
 else
 (if (decide ((i64 ((i64 ((i64 (2*v1.2))+1))+1))<a2)) then (c8 v1.1 (i64 (a3+(i64 ((i64 (2*v1.2))+1))))).bind fun v3=>
 (c8 v1.1 (i64 (a3+(i64 ((i64 (2*v1.2))+1))))).bind fun v4=>
 (c8 v1.1 (i64 ((i64 (a3+(i64 ((i64 (2*v1.2))+1))))+1))).bind fun v5=>
 (c8 v1.1 (i64 ((i64 (a3+(i64 ((i64 (2*v1.2))+1))))+1))).bind fun v6=>
 (u4 v4 v6).bind fun v7=>
 some v7 else some false).bind fun v8=>
 if v8 then
 joinC (a5o r2) (v1.1,a2,a3,v1.2,i64 ((i64 ((i64 (2*v1.2))+1))+1))
 else
 joinC (a5o r2) (v1.1,a2,a3,v1.2,i64 ((i64 (2*v1.2))+1))
def a3v (a0:List Int) (a1:Int) (a2:Int) (a3:Int):Option (List Int):=
 d8 FU (b0y a2 a3) (a0,a1)
def b0x (a1:Int) (r6:((List Int)×Int) -> Option (List Int)) (v5:(List Int)×Int):Option (List Int):=
 if (decide (v5.2 >= 0)) then
 (c8 v5.1 (i64 (a1+v5.2))).bind fun v7=>
 (c8 v5.1 (i64 (a1+v5.2))).bind fun v8=>
 (c8 v5.1 a1).bind fun v9=>
 (c8 v5.1 a1).bind fun v10=>
 (c8 v5.1 a1).bind fun v11=>
 (c8 v5.1 a1).bind fun v12=>
 (c8 (a1c v5.1 a1 v8) (i64 (a1+v5.2))).bind fun v13=>
 (c8 (a1c v5.1 a1 v8) (i64 (a1+v5.2))).bind fun v14=>
 (a3v (a1c (a1c v5.1 a1 v8) (i64 (a1+v5.2)) v10) 0 v5.2 a1).bind fun v15=>
 r6 (v15,i64 (v5.2-1))
 else
 some v5.1
def b0z (a2:Int) (a1:Int) (r3:((List Int)×Int) -> Option (List Int)) (v2:(List Int)×Int):Option (List Int):=
 if (decide (v2.2 >= 0)) then
 (a3v v2.1 v2.2 (i64 (a2-a1)) a1).bind fun v4=>
 r3 (v4,i64 (v2.2-1))
 else
 d8 FU (b0x a1) (v2.1,i64 ((i64 (a2-a1))-1))
def a6s (a0:List Int) (a1:Int) (a2:Int):Option (List Int):=
 (b55 (i64 ((i64 (a2-a1))-1)) 2).bind fun v1=>
 d8 FU (b0z a2 a1) (a0,v1)
def a40 (r4:((List Int)×Int×Int) -> Option (List Int)) (v7:(List Int)×Int×Int×Int×Int×Int×Int):Option (List Int):=
 (c8 v7.1 (i64 (v7.2.1+v7.2.2.2.2.2.2))).bind fun v8=>
 (c8 v7.1 (i64 (v7.2.1+v7.2.2.2.2.2.2))).bind fun v9=>
 (c8 v7.1 v7.2.2.2.2.2.1).bind fun v10=>
 (c8 v7.1 v7.2.2.2.2.2.1).bind fun v11=>
 (c8 v7.1 v7.2.2.2.2.2.1).bind fun v12=>
 (c8 v7.1 v7.2.2.2.2.2.1).bind fun v13=>
 (c8 (a1c v7.1 v7.2.2.2.2.2.1 v9) (i64 (v7.2.1+v7.2.2.2.2.2.2))).bind fun v14=>
 (c8 (a1c v7.1 v7.2.2.2.2.2.1 v9) (i64 (v7.2.1+v7.2.2.2.2.2.2))).bind fun v15=>
 r4 (a1c (a1c v7.1 v7.2.2.2.2.2.1 v9) (i64 (v7.2.1+v7.2.2.2.2.2.2)) v11,v7.2.2.2.1,i64 (v7.2.2.2.2.2.1+1))
def a8y (a2:Int) (a1:Int) (v1:Int) (r4:((List Int)×Int×Int) -> Option (List Int)) (v3:(List Int)×Int×Int):Option (List Int):=
 (b55 (i64 (a2-a1)) 4).bind fun v5=>
 if (decide (v3.2.2 <= (i64 ((i64 (a1+(i64 (v5*2))))+1)))) then
 (b3o v3.2.1).bind fun v6=>
 if (decide ((i64 (e38 .u64 v6.1 (u64 (v1-1)))) >= (i64 (a2-a1)))) then
 joinC (a40 r4) (v3.1,a1,i64 (a2-a1),v6.2,v1,v3.2.2,i64 ((i64 (e38 .u64 v6.1 (u64 (v1-1))))-(i64 (a2-a1))))
 else
 joinC (a40 r4) (v3.1,a1,i64 (a2-a1),v6.2,v1,v3.2.2,i64 (e38 .u64 v6.1 (u64 (v1-1))))
 else
 some v3.1
def a50 (a0:List Int) (a1:Int) (a2:Int):Option (List Int):=
 if (decide ((i64 (a2-a1)) >= 8)) then
 (b2e (i64 (a2-a1))).bind fun v1=>
 (b55 (i64 (a2-a1)) 4).bind fun v2=>
 d8 FU (a8y a2 a1 v1) (a0,u64 (i64 (a2-a1)),i64 ((i64 (a1+(i64 (v2*2))))-1))
 else
 some a0
def a2a (a0:List Int) (a1:Int) (a2:Int) (a3:Int):Option (Int×Int×Int):=
 (c8 a0 a2).bind fun v1=>
 (c8 a0 a1).bind fun v2=>
 (u4 v1 v2).bind fun v3=>
 if v3 then
 some (a2,a1,i64 (a3+1))
 else
 some (a1,a2,a3)
def a23 (a0:List Int) (a1:Int) (a2:Int) (a3:Int) (a4:Int):Option (Int×Int):=
 (a2a a0 a1 a2 a4).bind fun v1=>
 (a2a a0 v1.2.1 a3 v1.2.2).bind fun v2=>
 (a2a a0 v1.1 v2.1 v2.2.2).bind fun v3=>
 some (v3.2.1,v3.2.2)
def a0d (a0:List Int) (a1:Int) (a2:Int):Option (Int×Int):=
 (a23 a0 (i64 (a1-1)) a1 (i64 (a1+1)) a2).bind fun v1=>
 some (v1.1,v1.2)
def a1n (v8:Int×Int):Option (Int×Int):=
 if (v8.1==0) then
 some (v8.2,1)
 else
 if (v8.1==12) then
 some (v8.2,2)
 else
 some (v8.2,0)
def a5n (a0:List Int) (a1:Int) (a2:Int):Option (Int×Int):=
 (b55 (i64 (a2-a1)) 4).bind fun v1=>
 (b55 (i64 (a2-a1)) 4).bind fun v2=>
 (b55 (i64 (a2-a1)) 4).bind fun v3=>
 if (decide ((i64 (a2-a1)) >= 8)) then
 if (decide ((i64 (a2-a1)) >= 50)) then
 (a0d a0 (i64 (a1+(i64 (v1*1)))) 0).bind fun v4=>
 (a0d a0 (i64 (a1+(i64 (v2*2)))) v4.2).bind fun v5=>
 (a0d a0 (i64 (a1+(i64 (v3*3)))) v5.2).bind fun v6=>
 (a23 a0 v4.1 v5.1 v6.1 v6.2).bind fun v7=>
 joinC a1n (v7.2,v7.1)
 else
 (a23 a0 (i64 (a1+(i64 (v1*1)))) (i64 (a1+(i64 (v2*2)))) (i64 (a1+(i64 (v3*3)))) 0).bind fun v9=>
 joinC a1n (v9.2,v9.1)
 else
 joinC a1n (0,i64 (a1+(i64 (v2*2))))
def a95 (r2:((List Int)×Int×Int) -> Option (List Int)) (v1:(List Int)×Int×Int):Option (List Int):=
 if (decide (v1.2.1<v1.2.2)) then
 (c8 v1.1 v1.2.2).bind fun v3=>
 (c8 v1.1 v1.2.2).bind fun v4=>
 (c8 v1.1 v1.2.1).bind fun v5=>
 (c8 v1.1 v1.2.1).bind fun v6=>
 (c8 v1.1 v1.2.1).bind fun v7=>
 (c8 v1.1 v1.2.1).bind fun v8=>
 (c8 (a1c v1.1 v1.2.1 v4) v1.2.2).bind fun v9=>
 (c8 (a1c v1.1 v1.2.1 v4) v1.2.2).bind fun v10=>
 r2 (a1c (a1c v1.1 v1.2.1 v4) v1.2.2 v6,i64 (v1.2.1+1),i64 (v1.2.2-1))
 else
 some v1.1
def a5e (a0:List Int) (a1:Int) (a2:Int):Option (List Int):=
 d8 FU a95 (a0,a1,i64 (a2-1))
def a69 (v26:(List Int)×Int×Int×Int×Int) (r2:((List Int)×Int×Int) -> Option (Bool×(List Int))) (r28:((List Int)×Int) -> Option (Bool×(List Int))) (v27:(List Int)×Int):Option (Bool×(List Int)):=
 if (decide (v27.2<v26.2.2.1)) then
 (c8 v27.1 v27.2).bind fun v29=>
 (c8 v27.1 v27.2).bind fun v30=>
 (c8 v27.1 (i64 (v27.2-1))).bind fun v31=>
 (c8 v27.1 (i64 (v27.2-1))).bind fun v32=>
 (u4 v30 v32).bind fun v33=>
 if (!v33) then
 r2 (v27.1,v26.2.2.2.1,i64 (v26.2.2.2.2+1))
 else
 (c8 v27.1 (i64 (v27.2-1))).bind fun v34=>
 (c8 v27.1 (i64 (v27.2-1))).bind fun v35=>
 (c8 v27.1 v27.2).bind fun v36=>
 (c8 v27.1 v27.2).bind fun v37=>
 (c8 v27.1 v27.2).bind fun v38=>
 (c8 v27.1 v27.2).bind fun v39=>
 (c8 (a1c v27.1 v27.2 v35) (i64 (v27.2-1))).bind fun v40=>
 (c8 (a1c v27.1 v27.2 v35) (i64 (v27.2-1))).bind fun v41=>
 r28 (a1c (a1c v27.1 v27.2 v35) (i64 (v27.2-1)) v37,i64 (v27.2+1))
 else
 r2 (v27.1,v26.2.2.2.1,i64 (v26.2.2.2.2+1))
def a1x (r2:((List Int)×Int×Int) -> Option (Bool×(List Int))) (v26:(List Int)×Int×Int×Int×Int):Option (Bool×(List Int)):=
 if (decide ((i64 (v26.2.2.1-v26.2.2.2.1)) >= 2)) then
 d8 FU (a69 v26 r2) (v26.1,i64 (v26.2.2.2.1+1))
 else
 r2 (v26.1,v26.2.2.2.1,i64 (v26.2.2.2.2+1))
def a63 (r2:((List Int)×Int×Int) -> Option (Bool×(List Int))) (a1:Int) (a2:Int) (v3:(List Int)×Int) (v1:(List Int)×Int×Int) (r20:((List Int)×Int) -> Option (Bool×(List Int))) (v19:(List Int)×Int):Option (Bool×(List Int)):=
 if (decide (v19.2 >= 1)) then
 (c8 v19.1 v19.2).bind fun v21=>
 (c8 v19.1 v19.2).bind fun v22=>
 (c8 v19.1 (i64 (v19.2-1))).bind fun v23=>
 (c8 v19.1 (i64 (v19.2-1))).bind fun v24=>
 (u4 v22 v24).bind fun v25=>
 if (!v25) then
 joinC (a1x r2) (v19.1,a1,a2,v3.2,v1.2.2)
 else
 (c8 v19.1 (i64 (v19.2-1))).bind fun v42=>
 (c8 v19.1 (i64 (v19.2-1))).bind fun v43=>
 (c8 v19.1 v19.2).bind fun v44=>
 (c8 v19.1 v19.2).bind fun v45=>
 (c8 v19.1 v19.2).bind fun v46=>
 (c8 v19.1 v19.2).bind fun v47=>
 (c8 (a1c v19.1 v19.2 v43) (i64 (v19.2-1))).bind fun v48=>
 (c8 (a1c v19.1 v19.2 v43) (i64 (v19.2-1))).bind fun v49=>
 r20 (a1c (a1c v19.1 v19.2 v43) (i64 (v19.2-1)) v45,i64 (v19.2-1))
 else
 joinC (a1x r2) (v19.1,a1,a2,v3.2,v1.2.2)
def a67 (v50:(List Int)×Int×Int×Int×Int) (r2:((List Int)×Int×Int) -> Option (Bool×(List Int))) (r52:((List Int)×Int) -> Option (Bool×(List Int))) (v51:(List Int)×Int):Option (Bool×(List Int)):=
 if (decide (v51.2<v50.2.2.1)) then
 (c8 v51.1 v51.2).bind fun v53=>
 (c8 v51.1 v51.2).bind fun v54=>
 (c8 v51.1 (i64 (v51.2-1))).bind fun v55=>
 (c8 v51.1 (i64 (v51.2-1))).bind fun v56=>
 (u4 v54 v56).bind fun v57=>
 if (!v57) then
 r2 (v51.1,v50.2.2.2.1,i64 (v50.2.2.2.2+1))
 else
 (c8 v51.1 (i64 (v51.2-1))).bind fun v58=>
 (c8 v51.1 (i64 (v51.2-1))).bind fun v59=>
 (c8 v51.1 v51.2).bind fun v60=>
 (c8 v51.1 v51.2).bind fun v61=>
 (c8 v51.1 v51.2).bind fun v62=>
 (c8 v51.1 v51.2).bind fun v63=>
 (c8 (a1c v51.1 v51.2 v59) (i64 (v51.2-1))).bind fun v64=>
 (c8 (a1c v51.1 v51.2 v59) (i64 (v51.2-1))).bind fun v65=>
 r52 (a1c (a1c v51.1 v51.2 v59) (i64 (v51.2-1)) v61,i64 (v51.2+1))
 else
 r2 (v51.1,v50.2.2.2.1,i64 (v50.2.2.2.2+1))
def a66 (r2:((List Int)×Int×Int) -> Option (Bool×(List Int))) (v50:(List Int)×Int×Int×Int×Int):Option (Bool×(List Int)):=
 if (decide ((i64 (v50.2.2.1-v50.2.2.2.1)) >= 2)) then
 d8 FU (a67 v50 r2) (v50.1,i64 (v50.2.2.2.1+1))
 else
 r2 (v50.1,v50.2.2.2.1,i64 (v50.2.2.2.2+1))
def a65 (a2:Int) (a1:Int) (r2:((List Int)×Int×Int) -> Option (Bool×(List Int))) (v1:(List Int)×Int×Int) (r4:((List Int)×Int) -> Option (Bool×(List Int))) (v3:(List Int)×Int):Option (Bool×(List Int)):=
 (if (decide (v3.2<a2)) then (c8 v3.1 v3.2).bind fun v5=>
 (c8 v3.1 v3.2).bind fun v6=>
 (c8 v3.1 (i64 (v3.2-1))).bind fun v7=>
 (c8 v3.1 (i64 (v3.2-1))).bind fun v8=>
 (u4 v6 v8).bind fun v9=>
 some (!v9) else some false).bind fun v10=>
 if v10 then
 r4 (v3.1,i64 (v3.2+1))
 else
 if (v3.2==a2) then
 some (true,v3.1)
 else
 if (decide ((i64 (a2-a1))<50)) then
 some (false,v3.1)
 else
 (c8 v3.1 (i64 (v3.2-1))).bind fun v11=>
 (c8 v3.1 (i64 (v3.2-1))).bind fun v12=>
 (c8 v3.1 v3.2).bind fun v13=>
 (c8 v3.1 v3.2).bind fun v14=>
 (c8 v3.1 v3.2).bind fun v15=>
 (c8 v3.1 v3.2).bind fun v16=>
 (c8 (a1c v3.1 v3.2 v12) (i64 (v3.2-1))).bind fun v17=>
 (c8 (a1c v3.1 v3.2 v12) (i64 (v3.2-1))).bind fun v18=>
 if (decide ((i64 (v3.2-a1)) >= 2)) then
 d8 FU (a63 r2 a1 a2 v3 v1) (a1c (a1c v3.1 v3.2 v12) (i64 (v3.2-1)) v14,i64 (v3.2-1))
 else
 joinC (a66 r2) (a1c (a1c v3.1 v3.2 v12) (i64 (v3.2-1)) v14,a1,a2,v3.2,v1.2.2)
def a64 (a2:Int) (a1:Int) (r2:((List Int)×Int×Int) -> Option (Bool×(List Int))) (v1:(List Int)×Int×Int):Option (Bool×(List Int)):=
 if (decide (v1.2.2<5)) then
 d8 FU (a65 a2 a1 r2 v1) (v1.1,v1.2.1)
 else
 some (false,v1.1)
def a2s (a0:List Int) (a1:Int) (a2:Int):Option (Bool×(List Int)):=
 d8 FU (a64 a2 a1) (a0,i64 (a1+1),0)
def a8i (v11:(List Int)×Int) (a1:Int) (r10:((List Int)×Int×Int) -> Option (Int×(List Int))) (r20:((List Int)×Int) -> Option (Int×(List Int))) (v19:(List Int)×Int):Option (Int×(List Int)):=
 (if (decide (v11.2 <= v19.2)) then (c8 v19.1 a1).bind fun v21=>
 (c8 v19.1 a1).bind fun v22=>
 (c8 v19.1 v19.2).bind fun v23=>
 (c8 v19.1 v19.2).bind fun v24=>
 (u4 v22 v24).bind fun v25=>
 some v25 else some false).bind fun v26=>
 if v26 then
 r20 (v19.1,i64 (v19.2-1))
 else
 if (decide (v11.2>v19.2)) then
 some (v11.2,v19.1)
 else
 (c8 v19.1 v19.2).bind fun v27=>
 (c8 v19.1 v19.2).bind fun v28=>
 (c8 v19.1 v11.2).bind fun v29=>
 (c8 v19.1 v11.2).bind fun v30=>
 (c8 v19.1 v11.2).bind fun v31=>
 (c8 v19.1 v11.2).bind fun v32=>
 (c8 (a1c v19.1 v11.2 v28) v19.2).bind fun v33=>
 (c8 (a1c v19.1 v11.2 v28) v19.2).bind fun v34=>
 r10 (a1c (a1c v19.1 v11.2 v28) v19.2 v30,i64 (v11.2+1),i64 (v19.2-1))
def a8c (v9:(List Int)×Int×Int) (a1:Int) (r10:((List Int)×Int×Int) -> Option (Int×(List Int))) (r12:((List Int)×Int) -> Option (Int×(List Int))) (v11:(List Int)×Int):Option (Int×(List Int)):=
 (if (decide (v11.2 <= v9.2.2)) then (c8 v11.1 a1).bind fun v13=>
 (c8 v11.1 a1).bind fun v14=>
 (c8 v11.1 v11.2).bind fun v15=>
 (c8 v11.1 v11.2).bind fun v16=>
 (u4 v14 v16).bind fun v17=>
 some (!v17) else some false).bind fun v18=>
 if v18 then
 r12 (v11.1,i64 (v11.2+1))
 else
 d8 FU (a8i v11 a1 r10) (v11.1,v9.2.2)
def a8e (a1:Int) (r10:((List Int)×Int×Int) -> Option (Int×(List Int))) (v9:(List Int)×Int×Int):Option (Int×(List Int)):=
 d8 FU (a8c v9 a1 r10) (v9.1,v9.2.1)
def a4p (a0:List Int) (a1:Int) (a2:Int) (a3:Int):Option (Int×(List Int)):=
 (c8 a0 a3).bind fun v1=>
 (c8 a0 a3).bind fun v2=>
 (c8 a0 a1).bind fun v3=>
 (c8 a0 a1).bind fun v4=>
 (c8 a0 a1).bind fun v5=>
 (c8 a0 a1).bind fun v6=>
 (c8 (a1c a0 a1 v2) a3).bind fun v7=>
 (c8 (a1c a0 a1 v2) a3).bind fun v8=>
 d8 FU (a8e a1) (a1c (a1c a0 a1 v2) a3 v4,i64 (a1+1),i64 (a2-1))
def b02 (v43:(List Int)×Int) (a1:Int) (r42:((List Int)×Int×Int) -> Option (Int×Bool×(List Int))) (r52:((List Int)×Int) -> Option (Int×Bool×(List Int))) (v51:(List Int)×Int):Option (Int×Bool×(List Int)):=
 (if (decide (v43.2 <= v51.2)) then (c8 v51.1 v51.2).bind fun v53=>
 (c8 v51.1 v51.2).bind fun v54=>
 (c8 v51.1 a1).bind fun v55=>
 (c8 v51.1 a1).bind fun v56=>
 (u4 v54 v56).bind fun v57=>
 some (!v57) else some false).bind fun v58=>
 if v58 then
 r52 (v51.1,i64 (v51.2-1))
 else
 if (decide (v43.2>v51.2)) then
 (c8 v51.1 a1).bind fun v59=>
 (c8 v51.1 a1).bind fun v60=>
 (c8 v51.1 v51.2).bind fun v61=>
 (c8 v51.1 v51.2).bind fun v62=>
 (c8 v51.1 v51.2).bind fun v63=>
 (c8 v51.1 v51.2).bind fun v64=>
 (c8 (a1c v51.1 v51.2 v60) a1).bind fun v65=>
 (c8 (a1c v51.1 v51.2 v60) a1).bind fun v66=>
 some (v51.2,false,a1c (a1c v51.1 v51.2 v60) a1 v62)
 else
 (c8 v51.1 v51.2).bind fun v67=>
 (c8 v51.1 v51.2).bind fun v68=>
 (c8 v51.1 v43.2).bind fun v69=>
 (c8 v51.1 v43.2).bind fun v70=>
 (c8 v51.1 v43.2).bind fun v71=>
 (c8 v51.1 v43.2).bind fun v72=>
 (c8 (a1c v51.1 v43.2 v68) v51.2).bind fun v73=>
 (c8 (a1c v51.1 v43.2 v68) v51.2).bind fun v74=>
 r42 (a1c (a1c v51.1 v43.2 v68) v51.2 v70,i64 (v43.2+1),i64 (v51.2-1))
def b0d (v41:(List Int)×Int×Int) (a1:Int) (r42:((List Int)×Int×Int) -> Option (Int×Bool×(List Int))) (r44:((List Int)×Int) -> Option (Int×Bool×(List Int))) (v43:(List Int)×Int):Option (Int×Bool×(List Int)):=
 (if (decide (v43.2 <= v41.2.2)) then (c8 v43.1 v43.2).bind fun v45=>
 (c8 v43.1 v43.2).bind fun v46=>
 (c8 v43.1 a1).bind fun v47=>
 (c8 v43.1 a1).bind fun v48=>
 (u4 v46 v48).bind fun v49=>
 some v49 else some false).bind fun v50=>
 if v50 then
 r44 (v43.1,i64 (v43.2+1))
 else
 d8 FU (b02 v43 a1 r42) (v43.1,v41.2.2)
def b08 (a1:Int) (r42:((List Int)×Int×Int) -> Option (Int×Bool×(List Int))) (v41:(List Int)×Int×Int):Option (Int×Bool×(List Int)):=
 d8 FU (b0d v41 a1 r42) (v41.1,v41.2.1)
def a9u (v9:(List Int)×Int) (a1:Int) (r18:((List Int)×Int) -> Option (Int×Bool×(List Int))) (v17:(List Int)×Int):Option (Int×Bool×(List Int)):=
 (if (decide (v9.2 <= v17.2)) then (c8 v17.1 v17.2).bind fun v19=>
 (c8 v17.1 v17.2).bind fun v20=>
 (c8 v17.1 a1).bind fun v21=>
 (c8 v17.1 a1).bind fun v22=>
 (u4 v20 v22).bind fun v23=>
 some (!v23) else some false).bind fun v24=>
 if v24 then
 r18 (v17.1,i64 (v17.2-1))
 else
 if (decide (v9.2>v17.2)) then
 (c8 v17.1 a1).bind fun v25=>
 (c8 v17.1 a1).bind fun v26=>
 (c8 v17.1 v17.2).bind fun v27=>
 (c8 v17.1 v17.2).bind fun v28=>
 (c8 v17.1 v17.2).bind fun v29=>
 (c8 v17.1 v17.2).bind fun v30=>
 (c8 (a1c v17.1 v17.2 v26) a1).bind fun v31=>
 (c8 (a1c v17.1 v17.2 v26) a1).bind fun v32=>
 some (v17.2,true,a1c (a1c v17.1 v17.2 v26) a1 v28)
 else
 (c8 v17.1 v17.2).bind fun v33=>
 (c8 v17.1 v17.2).bind fun v34=>
 (c8 v17.1 v9.2).bind fun v35=>
 (c8 v17.1 v9.2).bind fun v36=>
 (c8 v17.1 v9.2).bind fun v37=>
 (c8 v17.1 v9.2).bind fun v38=>
 (c8 (a1c v17.1 v9.2 v34) v17.2).bind fun v39=>
 (c8 (a1c v17.1 v9.2 v34) v17.2).bind fun v40=>
 d8 FU (b08 a1) (a1c (a1c v17.1 v9.2 v34) v17.2 v36,i64 (v9.2+1),i64 (v17.2-1))
def b0j (a2:Int) (a1:Int) (r10:((List Int)×Int) -> Option (Int×Bool×(List Int))) (v9:(List Int)×Int):Option (Int×Bool×(List Int)):=
 (if (decide (v9.2 <= (i64 (a2-1)))) then (c8 v9.1 v9.2).bind fun v11=>
 (c8 v9.1 v9.2).bind fun v12=>
 (c8 v9.1 a1).bind fun v13=>
 (c8 v9.1 a1).bind fun v14=>
 (u4 v12 v14).bind fun v15=>
 some v15 else some false).bind fun v16=>
 if v16 then
 r10 (v9.1,i64 (v9.2+1))
 else
 d8 FU (a9u v9 a1) (v9.1,i64 (a2-1))
def a6b (a0:List Int) (a1:Int) (a2:Int) (a3:Int):Option (Int×Bool×(List Int)):=
 (c8 a0 a3).bind fun v1=>
 (c8 a0 a3).bind fun v2=>
 (c8 a0 a1).bind fun v3=>
 (c8 a0 a1).bind fun v4=>
 (c8 a0 a1).bind fun v5=>
 (c8 a0 a1).bind fun v6=>
 (c8 (a1c a0 a1 v2) a3).bind fun v7=>
 (c8 (a1c a0 a1 v2) a3).bind fun v8=>
 d8 FU (b0j a2 a1) (a1c (a1c a0 a1 v2) a3 v4,i64 (a1+1))
structure Ring_slices_pdqsortOrdered_of_int where
 f_slices_pdqsortOrdered_of_int:(List Int) -> Int -> Int -> Int -> Option (List Int)
def a5r (R:Ring_slices_pdqsortOrdered_of_int) (r2:((List Int)×Int×Int×Int×Bool×Bool) -> Option (List Int)) (v13:(List Int)×Int×Int×Int×Bool×Bool×Int×Int):Option (List Int):=
 (if (decide (v13.2.1>0)) then (c8 v13.1 (i64 (v13.2.1-1))).bind fun v14=>
 (c8 v13.1 (i64 (v13.2.1-1))).bind fun v15=>
 (c8 v13.1 v13.2.2.2.2.2.2.2).bind fun v16=>
 (c8 v13.1 v13.2.2.2.2.2.2.2).bind fun v17=>
 (u4 v15 v17).bind fun v18=>
 some (!v18) else some false).bind fun v19=>
 if v19 then
 (a4p v13.1 v13.2.1 v13.2.2.1 v13.2.2.2.2.2.2.2).bind fun v20=>
 r2 (v20.2,v20.1,v13.2.2.1,v13.2.2.2.1,v13.2.2.2.2.1,v13.2.2.2.2.2.1)
 else
 (a6b v13.1 v13.2.1 v13.2.2.1 v13.2.2.2.2.2.2.2).bind fun v21=>
 (b55 v13.2.2.2.2.2.2.1 8).bind fun v22=>
 if (decide ((i64 (v21.1-v13.2.1))<(i64 (v13.2.2.1-v21.1)))) then
 (R.f_slices_pdqsortOrdered_of_int v21.2.2 v13.2.1 v21.1 v13.2.2.2.1).bind fun v23=>
 r2 (v23,i64 (v21.1+1),v13.2.2.1,v13.2.2.2.1,decide ((i64 (v21.1-v13.2.1)) >= v22),v21.2.1)
 else
 (R.f_slices_pdqsortOrdered_of_int v21.2.2 (i64 (v21.1+1)) v13.2.2.1 v13.2.2.2.1).bind fun v24=>
 r2 (v24,v13.2.1,v21.1,v13.2.2.2.1,decide ((i64 (v13.2.2.1-v21.1)) >= v22),v21.2.1)
def a62 (R:Ring_slices_pdqsortOrdered_of_int) (r2:((List Int)×Int×Int×Int×Bool×Bool) -> Option (List Int)) (v9:(List Int)×Int×Int×Int×Bool×Bool×Int×Int×Int):Option (List Int):=
 (if v9.2.2.2.2.1 then some v9.2.2.2.2.2.1 else some false).bind fun v10=>
 (if v10 then some (v9.2.2.2.2.2.2.2.2==1) else some false).bind fun v11=>
 if v11 then
 (a2s v9.1 v9.2.1 v9.2.2.1).bind fun v12=>
 if v12.1 then
 some v12.2
 else
 joinC (a5r R r2) (v12.2,v9.2.1,v9.2.2.1,v9.2.2.2.1,v9.2.2.2.2.1,v9.2.2.2.2.2.1,v9.2.2.2.2.2.2.1,v9.2.2.2.2.2.2.2.1)
 else
 joinC (a5r R r2) (v9.1,v9.2.1,v9.2.2.1,v9.2.2.2.1,v9.2.2.2.2.1,v9.2.2.2.2.2.1,v9.2.2.2.2.2.2.1,v9.2.2.2.2.2.2.2.1)
def a5s (R:Ring_slices_pdqsortOrdered_of_int) (r2:((List Int)×Int×Int×Int×Bool×Bool) -> Option (List Int)) (v6:(List Int)×Int×Int×Int×Bool×Bool×Int):Option (List Int):=
 (a5n v6.1 v6.2.1 v6.2.2.1).bind fun v7=>
 if (v7.2==2) then
 (a5e v6.1 v6.2.1 v6.2.2.1).bind fun v8=>
 joinC (a62 R r2) (v8,v6.2.1,v6.2.2.1,v6.2.2.2.1,v6.2.2.2.2.1,v6.2.2.2.2.2.1,v6.2.2.2.2.2.2,i64 ((i64 (v6.2.2.1-1))-(i64 (v7.1-v6.2.1))),1)
 else
 joinC (a62 R r2) (v6.1,v6.2.1,v6.2.2.1,v6.2.2.2.1,v6.2.2.2.2.1,v6.2.2.2.2.2.1,v6.2.2.2.2.2.2,v7.1,v7.2)
def b1o (R:Ring_slices_pdqsortOrdered_of_int) (r2:((List Int)×Int×Int×Int×Bool×Bool) -> Option (List Int)) (v1:(List Int)×Int×Int×Int×Bool×Bool):Option (List Int):=
 if (decide ((i64 (v1.2.2.1-v1.2.1)) <= 12)) then
 (a52 v1.1 v1.2.1 v1.2.2.1).bind fun v3=>
 some v3
 else
 if (v1.2.2.2.1==0) then
 (a6s v1.1 v1.2.1 v1.2.2.1).bind fun v4=>
 some v4
 else
 if (!v1.2.2.2.2.1) then
 (a50 v1.1 v1.2.1 v1.2.2.1).bind fun v5=>
 joinC (a5s R r2) (v5,v1.2.1,v1.2.2.1,i64 (v1.2.2.2.1-1),v1.2.2.2.2.1,v1.2.2.2.2.2,i64 (v1.2.2.1-v1.2.1))
 else
 joinC (a5s R r2) (v1.1,v1.2.1,v1.2.2.1,v1.2.2.2.1,v1.2.2.2.2.1,v1.2.2.2.2.2,i64 (v1.2.2.1-v1.2.1))
def a6a (R:Ring_slices_pdqsortOrdered_of_int) (a0:List Int) (a1:Int) (a2:Int) (a3:Int):Option (List Int):=
 d8 FU (b1o R) (a0,a1,a2,a3,true,true)
def o9:Nat -> Ring_slices_pdqsortOrdered_of_int
 | 0=>⟨fun _ _ _ _=>none⟩
 | n+1=>⟨a6a (o9 n)⟩
def b3w (a0:List Int) (a1:Int) (a2:Int) (a3:Int):Option (List Int):=(o9 FU).f_slices_pdqsortOrdered_of_int a0 a1 a2 a3
def b5k (a0:List Int):Option (List Int):=
 (c0j (u64 ((a0.length:Int)))).bind fun v1=>
 (b3w a0 0 (a0.length:Int) v1).bind fun v2=>
 some v2
def b71 (r9:((List Int)×Int×Int×(Int×Nat)) -> Option (List Int)) (v8:(List Int)×Int×Int×(Int×Nat)):Option (List Int):=
 if (decide (v8.2.2.1<(v8.2.2.2.2:Int))) then
 (c1h v8.1 v8.2.2.2.1 v8.2.2.1).bind fun v10=>
 (c8 v8.1 (v8.2.2.2.1+v8.2.2.1)).bind fun v11=>
 (c1h v8.1 v8.2.2.2.1 (i64 (v8.2.2.1-1))).bind fun v12=>
 (c8 v8.1 (v8.2.2.2.1+(i64 (v8.2.2.1-1)))).bind fun v13=>
 if (v11 != v13) then
 (c1h v8.1 v8.2.2.2.1 v8.2.2.1).bind fun v14=>
 (c8 v8.1 (v8.2.2.2.1+v8.2.2.1)).bind fun v15=>
 (c8 v8.1 v8.2.1).bind fun v16=>
 (c8 v8.1 v8.2.1).bind fun v17=>
 r9 (a1c v8.1 v8.2.1 v15,i64 (v8.2.1+1),i64 (v8.2.2.1+1),(v8.2.2.2.1,v8.2.2.2.2))
 else
 r9 (v8.1,v8.2.1,i64 (v8.2.2.1+1),(v8.2.2.2.1,v8.2.2.2.2))
 else
 (a1q v8.1 v8.2.1 (v8.1.length:Int)).bind fun v18=>
 (f9m 0 v8.1 v8.2.1 v18.length).bind fun v19=>
 (a1q v19 0 v8.2.1).bind fun v20=>
 some v20
def b7b (r2:((List Int)×Int) -> Option (List Int)) (v1:(List Int)×Int):Option (List Int):=
 if (decide (v1.2<(v1.1.length:Int))) then
 (c8 v1.1 v1.2).bind fun v3=>
 (c8 v1.1 v1.2).bind fun v4=>
 (c8 v1.1 (i64 (v1.2-1))).bind fun v5=>
 (c8 v1.1 (i64 (v1.2-1))).bind fun v6=>
 if (v4==v6) then
 (a1q v1.1 v1.2 (v1.1.length:Int)).bind fun v7=>
 d8 FU b71 (v1.1,v1.2,1,(v1.2,v7.length))
 else
 r2 (v1.1,i64 (v1.2+1))
 else
 some v1.1
def b2b (a0:List Int):Option (List Int):=
 if (decide ((a0.length:Int)<2)) then
 some a0
 else
 d8 FU b7b (a0,1)
def b8o (v10:decision_file×Int×Int×(List decision_item)×Int×(List api_Fact)×(List Heir)×(List Int)×Int×Int) (r2:((List decision_item)×(List Int)×Int) -> Option (List decision_item)) (r12:((List decision_item)×(List Heir)×(List Int)×Int) -> Option (List decision_item)) (v11:(List decision_item)×(List Heir)×(List Int)×Int):Option (List decision_item):=
 if (decide (v11.2.2.2<(v10.1.x.States.length:Int))) then
 (c8 v10.1.x.States v11.2.2.2).bind fun v13=>
 none
 else
 r2 (v11.1,v11.2.2.1,i64 (v10.2.2.2.2.2.2.2.2.2+1))
def b8t (r2:((List decision_item)×(List Int)×Int) -> Option (List decision_item)) (v10:decision_file×Int×Int×(List decision_item)×Int×(List api_Fact)×(List Heir)×(List Int)×Int×Int):Option (List decision_item):=
 d8 FU (b8o v10 r2) (v10.2.2.2.1,v10.2.2.2.2.2.2.1,v10.2.2.2.2.2.2.2.1,0)
def b8u (a0:decision_file) (a1:Int) (a2:Int) (r2:((List decision_item)×(List Int)×Int) -> Option (List decision_item)) (v1:(List decision_item)×(List Int)×Int):Option (List decision_item):=
 if (decide (v1.2.2<([1,2,3].length:Int))) then
 (c8 v1.2.1 v1.2.2).bind fun v3=>
 (c8 v1.2.1 v1.2.2).bind fun v4=>
 (a4x a0 v4 a1 a2).bind fun v5=>
 if (!v5) then
 r2 (v1.1,v1.2.1,i64 (v1.2.2+1))
 else
 if (v4==3) then
 (a4w a0 v4 a1).bind fun v6=>
 (c8 v6 0).bind fun v7=>
 (c8 v6 0).bind fun v8=>
 (b4c a0.facts v8.Ref).bind fun v9=>
 none
 else
 joinC (b8t r2) (a0,a1,a2,v1.1,v4,a0.own,[],v1.2.1,([1,2,3].length:Int),v1.2.2)
 else
 some v1.1
def b4q (a0:decision_file) (a1:Int) (a2:Int):Option (List decision_item):=
 d8 FU (b8u a0 a1 a2) ([],[1,2,3],0)
def c4m (a0:List decision_item) (r2:((List Gross)×Int) -> Option (List Gross)) (v1:(List Gross)×Int):Option (List Gross):=
 if (decide (v1.2<(a0.length:Int))) then
 (c8 a0 v1.2).bind fun v3=>
 (a9h 56 v1.1 [v3.gross]).bind fun v4=>
 r2 (v4,i64 (v1.2+1))
 else
 some v1.1
def c19 (a0:List decision_item):Option (List Gross):=
 d8 FU (c4m a0) ([],0)
def c33 (a0:List Gross) (r2:Int -> Option Bool) (v1:Int):Option Bool:=
 if (decide (v1<(a0.length:Int))) then
 (c8 a0 v1).bind fun v3=>
 none
 else
 some true
def b9r (a0:List Gross):Option Bool:=
 if (decide ((a0.length:Int)>18)) then
 some false
 else
 d8 FU (c33 a0) 0
def b81 (a0:List Gross) (r10:((List (List Int))×(List Deduction)×Int) -> Option ((List Deduction)×Int)) (v9:(List (List Int))×(List Deduction)×Int):Option ((List Deduction)×Int):=
 if (decide (v9.2.2<(a0.length:Int))) then
 (c8 a0 v9.2.2).bind fun v11=>
 none
 else
 some (v9.2.1,0)
def b7z (a0:List Gross) (r8:((List (List Int))×Int) -> Option ((List Deduction)×Int)) (v7:(List (List Int))×Int):Option ((List Deduction)×Int):=
 if (decide (v7.2<(a0.length:Int))) then
 none
 else
 d8 FU (b81 a0) (v7.1,[],0)
def b3e (a0:List Gross) (a1:List Rate) (a2:Int):Option ((List Deduction)×Int):=
 (b9r a0).bind fun v1=>
 (if (!v1) then some true else some (decide (a2<0))).bind fun v2=>
 (if v2 then some true else some (decide (a2>2399))).bind fun v3=>
 (if v3 then some true else (a6t a1).bind fun v4=>
 some (v4 != 0)).bind fun v5=>
 if v5 then
 some ([],1)
 else
 (mkI 24 ([]:List Int) (a0.length:Int) (a0.length:Int)).bind fun v6=>
 d8 FU (b7z a0) (v6,0)
def c2v (v8:(List Net)×(List Deduction)×Int) (r17:((List Net)×Int) -> Option ((List Net)×Int)) (v16:(List Net)×Int):Option ((List Net)×Int):=
 if (decide (v16.2<(v8.1.length:Int))) then
 (c8 v16.1 v16.2).bind fun v18=>
 (c8 v16.1 v16.2).bind fun v19=>
 (c8 v16.1 v16.2).bind fun v20=>
 (c8 v16.1 v16.2).bind fun v21=>
 (c8 v16.1 v16.2).bind fun v22=>
 r17 (a1c v16.1 v16.2 (⟨v22.State,v22.Benefit,v22.Currency,v22.Independent,v22.ProRata,v22.Deducted,max (i64 (v19.Independent-v20.Deducted)) v21.ProRata⟩:Net),i64 (v16.2+1))
 else
 some (v16.1,0)
def c34 (v3:(List Deduction)×(List Net)×Int) (r9:((List Net)×(List Deduction)×Int) -> Option ((List Net)×Int)) (v8:(List Net)×(List Deduction)×Int):Option ((List Net)×Int):=
 if (decide (v8.2.2<(v3.1.length:Int))) then
 (c8 v8.2.1 v8.2.2).bind fun v10=>
 (c8 v8.2.1 v8.2.2).bind fun v11=>
 (c8 v8.1 v11.By).bind fun v12=>
 (c8 v8.1 v11.By).bind fun v13=>
 (c8 v8.1 v11.By).bind fun v14=>
 (c8 v8.1 v11.By).bind fun v15=>
 r9 (a1c v8.1 v11.By (⟨v15.State,v15.Benefit,v15.Currency,v15.Independent,v15.ProRata,min (i64 (v13.Deducted+v11.Amount)) v14.Independent,v15.Amount⟩:Net),v8.2.1,i64 (v8.2.2+1))
 else
 d8 FU (c2v v8) (v8.1,0)
def c3l (a0:List Gross) (r4:((List Deduction)×(List Net)×Int) -> Option ((List Net)×Int)) (v3:(List Deduction)×(List Net)×Int):Option ((List Net)×Int):=
 if (decide (v3.2.2<(a0.length:Int))) then
 (c8 a0 v3.2.2).bind fun v5=>
 (c8 v3.2.1 v3.2.2).bind fun v6=>
 (c8 v3.2.1 v3.2.2).bind fun v7=>
 r4 (v3.1,a1c v3.2.1 v3.2.2 (⟨v5.State,v5.Benefit,v5.Currency,v5.Independent,v5.ProRata,0,0⟩:Net),i64 (v3.2.2+1))
 else
 d8 FU (c34 v3) (v3.2.1,v3.1,0)
def b9f (a0:List Gross) (a1:List Rate) (a2:Int):Option ((List Net)×Int):=
 (b3e a0 a1 a2).bind fun v1=>
 if (v1.2 != 0) then
 some ([],v1.2)
 else
 (mkI 56 (⟨0,0,0,0,0,0,0⟩:Net) (a0.length:Int) (a0.length:Int)).bind fun v2=>
 d8 FU (c3l a0) (v1.1,v2,0)
def b3l (a0:Net) (a1:Net):Option Bool:=
 (if (a0.State==a1.State) then some (a0.Benefit==1) else some false).bind fun v1=>
 (if v1 then some (decide (a0.Amount>0)) else some false).bind fun v2=>
 some v2
def b3m (a0:Net) (a1:Net):Option Bool:=
 (if (a0.State==a1.State) then some (a0.Benefit==2) else some false).bind fun v1=>
 (if v1 then some (a0.Currency==a1.Currency) else some false).bind fun v2=>
 some v2
def a49 (a0:List Net) (a1_0:Net) (r2:Int -> Option Int) (v1:Int):Option Int:=
 if (decide (v1<(a0.length:Int))) then
 (c8 a0 v1).bind fun v3=>
 (b3l v3 a1_0).bind fun v4=>
 if v4 then
 some v1
 else
 r2 (i64 (v1+1))
 else
 some (-1:Int)
def a17 (a0:List Net) (a1_0:Net):Option Int:=
 d8 FU (a49 a0 a1_0) 0
def a4b (a0:List Net) (a1_0:Net) (r2:Int -> Option Int) (v1:Int):Option Int:=
 if (decide (v1<(a0.length:Int))) then
 (c8 a0 v1).bind fun v3=>
 (b3m v3 a1_0).bind fun v4=>
 if v4 then
 some v1
 else
 r2 (i64 (v1+1))
 else
 some (-1:Int)
def a16 (a0:List Net) (a1_0:Net):Option Int:=
 d8 FU (a4b a0 a1_0) 0
def b9p (a0:List Net) (r19:((List Int)×(List Bool)×(List Net)×Int) -> Option (List Net)) (v18:(List Int)×(List Bool)×(List Net)×Int):Option (List Net):=
 if (decide (v18.2.2.2<(a0.length:Int))) then
 (c8 a0 v18.2.2.2).bind fun v20=>
 (c8 v18.2.1 v18.2.2.2).bind fun v21=>
 (c8 v18.2.1 v18.2.2.2).bind fun v22=>
 if (!v22) then
 (c8 v18.1 v18.2.2.2).bind fun v23=>
 (c8 v18.1 v18.2.2.2).bind fun v24=>
 (a9h 56 v18.2.2.1 [(⟨v20.State,v20.Benefit,v20.Currency,v20.Independent,v20.ProRata,v20.Deducted,v24⟩:Net)]).bind fun v25=>
 r19 (v18.1,v18.2.1,v25,i64 (v18.2.2.2+1))
 else
 r19 (v18.1,v18.2.1,v18.2.2.1,i64 (v18.2.2.2+1))
 else
 some v18.2.2.1
def b9j (a0:List Net) (r9:((List Int)×(List Bool)×Int) -> Option (List Net)) (v8:(List Int)×(List Bool)×Int):Option (List Net):=
 if (decide (v8.2.2<(a0.length:Int))) then
 (c8 a0 v8.2.2).bind fun v10=>
 (a17 a0 v10).bind fun v11=>
 if (v11 != v8.2.2) then
 r9 (v8.1,v8.2.1,i64 (v8.2.2+1))
 else
 (a16 a0 v10).bind fun v12=>
 if (decide (v12 >= 0)) then
 (c8 a0 v12).bind fun v13=>
 (c8 v8.1 v8.2.2).bind fun v14=>
 (c8 v8.1 v8.2.2).bind fun v15=>
 (c8 v8.2.1 v12).bind fun v16=>
 (c8 v8.2.1 v12).bind fun v17=>
 r9 (a1c v8.1 v8.2.2 (max v10.Amount v13.Amount),a1c v8.2.1 v12 true,i64 (v8.2.2+1))
 else
 r9 (v8.1,v8.2.1,i64 (v8.2.2+1))
 else
 d8 FU (b9p a0) (v8.1,v8.2.1,[],0)
def b9q (a0:List Net) (r4:((List Int)×(List Bool)×Int) -> Option (List Net)) (v3:(List Int)×(List Bool)×Int):Option (List Net):=
 if (decide (v3.2.2<(a0.length:Int))) then
 (c8 a0 v3.2.2).bind fun v5=>
 (c8 v3.1 v3.2.2).bind fun v6=>
 (c8 v3.1 v3.2.2).bind fun v7=>
 r4 (a1c v3.1 v3.2.2 v5.Amount,v3.2.1,i64 (v3.2.2+1))
 else
 d8 FU (b9j a0) (v3.1,v3.2.1,0)
def b5g (a0:List Net):Option (List Net):=
 (mkI 8 (0:Int) (a0.length:Int) (a0.length:Int)).bind fun v1=>
 (mkI 1 (false:Bool) (a0.length:Int) (a0.length:Int)).bind fun v2=>
 d8 FU (b9q a0) (v1,v2,0)
def b67 (v1:List Claim) (a0:decision_file) (a2:Int) (r3:((List Net)×(List Claim)×Int) -> Option (List Net)) (v2:(List Net)×(List Claim)×Int):Option (List Net):=
 if (decide (v2.2.2<(v1.length:Int))) then
 (c8 v2.2.1 v2.2.2).bind fun v4=>
 (c8 v2.2.1 v2.2.2).bind fun v5=>
 (a8v a0 v5.Ref a2).bind fun v6=>
 if (!v6) then
 r3 (v2.1,v2.2.1,i64 (v2.2.2+1))
 else
 none
 else
 some v2.1
def b1i (a0:decision_file) (a1:Int) (a2:Int):Option (List Net):=
 (a4w a0 4 a1).bind fun v1=>
 d8 FU (b67 v1 a0 a2) ([],v1,0)
def a7p (a0:Net):Option Bool:=
 some (decide (a0.Amount <= 0))
def b2v (a0:Net) (a1:Net):Option Int:=
 (k6 a0.State a1.State).bind fun v1=>
 (k6 a0.Benefit a1.Benefit).bind fun v2=>
 (a3c [v1,v2]).bind fun v3=>
 some v3
def a45 (a0:List Net) (r2:Int -> Option Int) (v1:Int):Option Int:=
 if (decide (v1<(a0.length:Int))) then
 (c8 a0 v1).bind fun v3=>
 (a7p v3).bind fun v4=>
 if v4 then
 some v1
 else
 r2 (i64 (v1+1))
 else
 some (-1:Int)
def a0v (a0:List Net):Option Int:=
 d8 FU (a45 a0) 0
def a3q (r3:((List Net)×Int×Int) -> Option (List Net)) (v2:(List Net)×Int×Int):Option (List Net):=
 if (decide (v2.2.2<(v2.1.length:Int))) then
 (c8 v2.1 v2.2.2).bind fun v4=>
 (c8 v2.1 v2.2.2).bind fun v5=>
 (a7p v5).bind fun v6=>
 if (!v6) then
 (c8 v2.1 v2.2.1).bind fun v7=>
 (c8 v2.1 v2.2.1).bind fun v8=>
 r3 (a1c v2.1 v2.2.1 v5,i64 (v2.2.1+1),i64 (v2.2.2+1))
 else
 r3 (v2.1,v2.2.1,i64 (v2.2.2+1))
 else
 (a1q v2.1 v2.2.1 (v2.1.length:Int)).bind fun v9=>
 (f9m (⟨0,0,0,0,0,0,0⟩:Net) v2.1 v2.2.1 v9.length).bind fun v10=>
 (a1q v10 0 v2.2.1).bind fun v11=>
 some v11
def u6 (a0:List Net):Option (List Net):=
 (a0v a0).bind fun v1=>
 if (v1==(-1:Int)) then
 some a0
 else
 d8 FU a3q (a0,v1,i64 (v1+1))
def a1u (a1:Int) (r2:((List Net)×Int) -> Option (List Net)) (v1:(List Net)×Int) (r4:((List Net)×Int) -> Option (List Net)) (v3:(List Net)×Int):Option (List Net):=
 (if (decide (v3.2>a1)) then (c8 v3.1 v3.2).bind fun v5=>
 (c8 v3.1 v3.2).bind fun v6=>
 (c8 v3.1 (i64 (v3.2-1))).bind fun v7=>
 (c8 v3.1 (i64 (v3.2-1))).bind fun v8=>
 (b2v v6 v8).bind fun v9=>
 some (decide (v9<0)) else some false).bind fun v10=>
 if v10 then
 (c8 v3.1 (i64 (v3.2-1))).bind fun v11=>
 (c8 v3.1 (i64 (v3.2-1))).bind fun v12=>
 (c8 v3.1 v3.2).bind fun v13=>
 (c8 v3.1 v3.2).bind fun v14=>
 (c8 v3.1 v3.2).bind fun v15=>
 (c8 v3.1 v3.2).bind fun v16=>
 (c8 (a1c v3.1 v3.2 v12) (i64 (v3.2-1))).bind fun v17=>
 (c8 (a1c v3.1 v3.2 v12) (i64 (v3.2-1))).bind fun v18=>
 r4 (a1c (a1c v3.1 v3.2 v12) (i64 (v3.2-1)) v14,i64 (v3.2-1))
 else
 r2 (v3.1,i64 (v1.2+1))
def a1w (a2:Int) (a1:Int) (r2:((List Net)×Int) -> Option (List Net)) (v1:(List Net)×Int):Option (List Net):=
 if (decide (v1.2<a2)) then
 d8 FU (a1u a1 r2 v1) (v1.1,v1.2)
 else
 some v1.1
def p5 (a0:List Net) (a1:Int) (a2:Int):Option (List Net):=
 d8 FU (a1w a2 a1) (a0,i64 (a1+1))
def a3d (a1:Int) (v5:(List Net)×Int) (r6:((List Net)×Int) -> Option (List Net)) (r8:((List Net)×Int×Int) -> Option (List Net)) (v7:(List Net)×Int×Int):Option (List Net):=
 if (decide (v7.2.2 <= a1)) then
 none
 else
 if (decide ((i64 (v7.2.1+v5.2))<a1)) then
 none
 else
 r6 (v7.1,i64 (v5.2*2))
def a39 (a1:Int) (r6:((List Net)×Int) -> Option (List Net)) (v5:(List Net)×Int):Option (List Net):=
 if (decide (v5.2<a1)) then
 d8 FU (a3d a1 v5 r6) (v5.1,0,i64 (2*v5.2))
 else
 some v5.1
def a3e (a1:Int) (r2:((List Net)×Int×Int) -> Option (List Net)) (v1:(List Net)×Int×Int):Option (List Net):=
 if (decide (v1.2.2 <= a1)) then
 (p5 v1.1 v1.2.1 v1.2.2).bind fun v3=>
 r2 (v3,v1.2.2,i64 (v1.2.2+20))
 else
 (p5 v1.1 v1.2.1 a1).bind fun v4=>
 d8 FU (a39 a1) (v4,20)
def a0h (a0:List Net) (a1:Int):Option (List Net):=
 d8 FU (a3e a1) (a0,0,20)
def s6 (a0:List Net):Option (List Net):=
 (a0h a0 (a0.length:Int)).bind fun v1=>
 some v1
def b8r (v4:decision_file×Int×Int×(List Net)) (r10:((List Net)×Int) -> Option (List Net)) (v9:(List Net)×Int):Option (List Net):=
 if (decide (v9.2<(v4.1.x.States.length:Int))) then
 (c8 v4.1.x.States v9.2).bind fun v11=>
 none
 else
 (u6 v9.1).bind fun v12=>
 (s6 v12).bind fun v13=>
 some v13
def b1e (v4:decision_file×Int×Int×(List Net)):Option (List Net):=
 (b5g v4.2.2.2).bind fun v5=>
 (b1i v4.1 v4.2.1 v4.2.2.1).bind fun v6=>
 (a9h 56 v5 v6).bind fun v7=>
 (a4x v4.1 5 v4.2.1 v4.2.2.1).bind fun v8=>
 if v8 then
 d8 FU (b8r v4) (v7,0)
 else
 (u6 v7).bind fun v14=>
 (s6 v14).bind fun v15=>
 some v15
def b51 (a0:decision_file) (a1:Int) (a2:Int):Option (List Net):=
 (b4q a0 a1 a2).bind fun v1=>
 (c19 v1).bind fun v2=>
 (b9f v2 a0.x.Rates a1).bind fun v3=>
 if (v3.2 != 0) then
 joinC b1e (a0,a1,a2,[])
 else
 joinC b1e (a0,a1,a2,v3.1)
def b82 (a0:decision_file) (r14:((List (Ar 6 (List Stage)))×(List (List Int))×Int) -> Option (List (Ar 6 (List Stage)))) (v13:(List (Ar 6 (List Stage)))×(List (List Int))×Int) (r18:((List (Ar 6 (List Stage)))×(List (List Int))×Int) -> Option (List (Ar 6 (List Stage)))) (v17:(List (Ar 6 (List Stage)))×(List (List Int))×Int):Option (List (Ar 6 (List Stage))):=
 if (decide (v17.2.2<(a0.x.States.length:Int))) then
 (c8 a0.x.States v17.2.2).bind fun v19=>
 none
 else
 r14 (v17.1,v17.2.1,i64 (v13.2.2+1))
def b7l (a0:decision_file) (v9:(List (Ar 6 (List Stage)))×(List (List Int))×Int) (v11:Int×Bool) (r10:((List (Ar 6 (List Stage)))×(List (List Int))×Int) -> Option (List (Ar 6 (List Stage)))) (r14:((List (Ar 6 (List Stage)))×(List (List Int))×Int) -> Option (List (Ar 6 (List Stage)))) (v13:(List (Ar 6 (List Stage)))×(List (List Int))×Int):Option (List (Ar 6 (List Stage))):=
 if (decide (v13.2.2 <= 5)) then
 (if (decide (v13.2.2 <= 3)) then (a4x a0 v13.2.2 v9.2.2 v11.1).bind fun v15=>
 some v15 else some false).bind fun v16=>
 d8 FU (b82 a0 r14 v13) (v13.1,v13.2.1,0)
 else
 r10 (v13.1,v13.2.1,i64 (v9.2.2+1))
def b89 (a2:Int) (a0:decision_file) (r10:((List (Ar 6 (List Stage)))×(List (List Int))×Int) -> Option (List (Ar 6 (List Stage)))) (v9:(List (Ar 6 (List Stage)))×(List (List Int))×Int):Option (List (Ar 6 (List Stage))):=
 if (decide (v9.2.2 <= a2)) then
 (a35 v9.2.2).bind fun v11=>
 (b51 a0 v9.2.2 v11.1).bind fun v12=>
 d8 FU (b7l a0 v9 v11 r10) (v9.1,v9.2.1,1)
 else
 some v9.1
def b84 (a0:decision_file) (a1:Int) (a2:Int) (r4:((List (Ar 6 (List Stage)))×(List (List Int))×Int) -> Option (List (Ar 6 (List Stage)))) (v3:(List (Ar 6 (List Stage)))×(List (List Int))×Int):Option (List (Ar 6 (List Stage))):=
 if (decide (v3.2.2<(a0.x.States.length:Int))) then
 (c8 a0.x.States v3.2.2).bind fun v5=>
 (b5b a0.x v5.State a1 a2).bind fun v6=>
 (c8 v3.2.1 v3.2.2).bind fun v7=>
 (c8 v3.2.1 v3.2.2).bind fun v8=>
 r4 (v3.1,a1c v3.2.1 v3.2.2 v6,i64 (v3.2.2+1))
 else
 d8 FU (b89 a2 a0) (v3.1,v3.2.1,a1)
def c0q (a0:decision_file) (a1:Int) (a2:Int):Option (List (Ar 6 (List Stage))):=
 (mkI 144 (arZ 6 []:Ar 6 (List Stage)) (a0.x.States.length:Int) (a0.x.States.length:Int)).bind fun v1=>
 (mkI 24 ([]:List Int) (a0.x.States.length:Int) (a0.x.States.length:Int)).bind fun v2=>
 d8 FU (b84 a0 a1 a2) (v1,v2,0)
def a4e (a0:Laws) (a1:List api_Fact) (a2:List Claim) (a3:Int) (a4:Int):Option ((List Row)×Int):=
 (a9l a0).bind fun v1=>
 if (v1 != 0) then
 some ([],v1)
 else
 (if (decide (a3<1)) then some true else some (decide (a3>99))).bind fun v2=>
 (if v2 then some true else some (decide (a4<0))).bind fun v3=>
 (if v3 then some true else some (decide (a4>2399))).bind fun v4=>
 if v4 then
 some ([],1)
 else
 (b3y a0 a1 a2 a3).bind fun v5=>
 optC v5 (none) fun v6=>
 (a6r v6).bind fun v7=>
 (if (!v7.2) then some true else some (decide (v7.1>a4))).bind fun v8=>
 if v8 then
 some ([],0)
 else
 if (decide ((i64 (a4-v7.1)) >= 120)) then
 some ([],7)
 else
 none
def a58 (a0:Int):Option Bool:=
 (if (decide (a0 >= 0)) then some (decide (a0 <= 2399)) else some false).bind fun v1=>
 some v1
def b6x (r2:((List (Int×Int))×Int) -> Option Bool) (v18:(List Row)×(List (Int×Int))×Row×(List Row)×Int×Int):Option Bool:=
 (if (c7u v18.2.1 v18.2.2.1.State) then some ((c14 v18.2.1 v18.2.2.1.State) != v18.2.2.1.Currency) else some false).bind fun v19=>
 if v19 then
 some false
 else
 r2 (b5m v18.2.1 v18.2.2.1.State v18.2.2.1.Currency,i64 (v18.2.2.2.2.2+1))
def c4l (a0:List Row) (r2:((List (Int×Int))×Int) -> Option Bool) (v1:(List (Int×Int))×Int):Option Bool:=
 if (decide (v1.2<(a0.length:Int))) then
 (c8 a0 v1.2).bind fun v3=>
 (if (decide (v3.State<0)) then some true else some (decide (v3.State >= 6))).bind fun v4=>
 (if v4 then some true else some (decide (v3.Benefit<1))).bind fun v5=>
 (if v5 then some true else some (decide (v3.Benefit>5))).bind fun v6=>
 (if v6 then some true else (a58 v3.Month).bind fun v7=>
 some (!v7)).bind fun v8=>
 (if v8 then some true else some (decide (v3.Currency<1))).bind fun v9=>
 (if v9 then some true else some (decide (v3.Currency>999))).bind fun v10=>
 (if v10 then some true else some (decide (v3.Amount<0))).bind fun v11=>
 (if v11 then some true else some (decide (v3.Amount>1000000000000))).bind fun v12=>
 if v12 then
 some false
 else
 if (decide (v1.2>0)) then
 (c8 a0 (i64 (v1.2-1))).bind fun v13=>
 (k6 v13.State v3.State).bind fun v14=>
 (k6 v13.Benefit v3.Benefit).bind fun v15=>
 (k6 v13.Month v3.Month).bind fun v16=>
 (a3c [v14,v15,v16]).bind fun v17=>
 if (decide (v17 >= 0)) then
 some false
 else
 joinC (b6x r2) (a0,v1.1,v3,a0,(a0.length:Int),v1.2)
 else
 joinC (b6x r2) (a0,v1.1,v3,a0,(a0.length:Int),v1.2)
 else
 some true
def b27 (a0:List Row):Option Bool:=
 d8 FU (c4l a0) ([],0)
def c3t (a0:List Row) (a1:Int) (a2:Int) (a3:Int) (r2:(Int×Int) -> Option Int) (v1:Int×Int):Option Int:=
 if (decide (v1.2<(a0.length:Int))) then
 (c8 a0 v1.2).bind fun v3=>
 (if (v3.State==a1) then some (v3.Benefit==a2) else some false).bind fun v4=>
 (if v4 then some (decide (v3.Month <= a3)) else some false).bind fun v5=>
 if v5 then
 r2 (v3.Amount,i64 (v1.2+1))
 else
 r2 (v1.1,i64 (v1.2+1))
 else
 some v1.1
def b4u (a0:List Row) (a1:Int) (a2:Int) (a3:Int):Option Int:=
 d8 FU (c3t a0 a1 a2 a3) (0,0)
def b0o (a0:List Row) (a1:Int) (a2:Int) (r2:(Int×Int) -> Option Int) (v1:Int×Int):Option Int:=
 if (decide (v1.2 <= 5)) then
 (b4u a0 a1 v1.2 a2).bind fun v3=>
 r2 (i64 (v1.1+v3),i64 (v1.2+1))
 else
 some v1.1
def b2n (a0:List Row) (a1:Int) (a2:Int):Option Int:=
 d8 FU (b0o a0 a1 a2) (0,1)
def b5e (a0:List Row) (a1:Int) (a2:Int):Option (Int×Int):=
 (b27 a0).bind fun v1=>
 (if (!v1) then some true else (a58 a2).bind fun v2=>
 some (!v2)).bind fun v3=>
 if v3 then
 some (0,1)
 else
 (b2n a0 a1 a2).bind fun v4=>
 if (decide (v4>1000000000000)) then
 some (0,2)
 else
 some (v4,0)
def a6j (a0:Laws) (a1:List api_Fact) (a2:List Claim) (a3:Int) (a4:Int) (a5:Int):Option (Int×Int):=
 (a4e a0 a1 a2 a3 a5).bind fun v1=>
 if (v1.2 != 0) then
 some (0,v1.2)
 else
 (b5e v1.1 a4 a5).bind fun v2=>
 some (v2.1,v2.2)
def c0m (v3:List Row) (a2:Int) (a0:Int) (a1:Int) (r2:((List Int)×Int) -> Option (List Int)) (v1:(List Int)×Int) (r5:((List Int)×Int) -> Option (List Int)) (v4:(List Int)×Int):Option (List Int):=
 if (decide (v4.2<(v3.length:Int))) then
 (c8 v3 v4.2).bind fun v6=>
 (if (v6.State==a2) then some (decide (v6.Month>a0)) else some false).bind fun v7=>
 (if v7 then some (decide (v6.Month <= a1)) else some false).bind fun v8=>
 if v8 then
 (a9h 8 v4.1 [v6.Month]).bind fun v9=>
 r5 (v9,i64 (v4.2+1))
 else
 r5 (v4.1,i64 (v4.2+1))
 else
 r2 (v4.1,i64 (v1.2+1))
def c0s (a3:List (List Row)) (a2:Int) (a0:Int) (a1:Int) (r2:((List Int)×Int) -> Option (List Int)) (v1:(List Int)×Int):Option (List Int):=
 if (decide (v1.2<(a3.length:Int))) then
 (c8 a3 v1.2).bind fun v3=>
 d8 FU (c0m v3 a2 a0 a1 r2 v1) (v1.1,0)
 else
 (b5k v1.1).bind fun v10=>
 (b2b v10).bind fun v11=>
 some v11
def b77 (a0:Int) (a1:Int) (a2:Int) (a3:List (List Row)):Option (List Int):=
 d8 FU (c0s a3 a2 a0 a1) ([a0],0)
def b6l (r8:(Int×(List Int)×Int) -> Option (Int×Int)) (v13:(List Row)×Int×Int×Int×(List Int)×Int×Int×Int×Int):Option (Int×Int):=
 (b2n v13.1 v13.2.1 v13.2.2.2.2.2.1).bind fun v14=>
 if (decide ((i64 (v13.2.2.2.1+(i64 (v14*(i64 (v13.2.2.2.2.2.2.1-v13.2.2.2.2.2.1))))))>1000000000000)) then
 some (0,2)
 else
 r8 (i64 (v13.2.2.2.1+(i64 (v14*(i64 (v13.2.2.2.2.2.2.1-v13.2.2.2.2.2.1))))),v13.2.2.2.2.1,i64 (v13.2.2.2.2.2.2.2.2+1))
def c4d (v6:List Int) (a0:List Row) (a1:Int) (a3:Int) (r8:(Int×(List Int)×Int) -> Option (Int×Int)) (v7:Int×(List Int)×Int):Option (Int×Int):=
 if (decide (v7.2.2<(v6.length:Int))) then
 (c8 v7.2.1 v7.2.2).bind fun v9=>
 (c8 v7.2.1 v7.2.2).bind fun v10=>
 if (decide ((i64 (v7.2.2+1))<(v7.2.1.length:Int))) then
 (c8 v7.2.1 (i64 (v7.2.2+1))).bind fun v11=>
 (c8 v7.2.1 (i64 (v7.2.2+1))).bind fun v12=>
 joinC (b6l r8) (a0,a1,a3,v7.1,v7.2.1,v10,v12,(v6.length:Int),v7.2.2)
 else
 joinC (b6l r8) (a0,a1,a3,v7.1,v7.2.1,v10,i64 (a3+1),(v6.length:Int),v7.2.2)
 else
 some (v7.1,0)
def b6i (a0:List Row) (a1:Int) (a2:Int) (a3:Int):Option (Int×Int):=
 (b27 a0).bind fun v1=>
 (if (!v1) then some true else (a58 a2).bind fun v2=>
 some (!v2)).bind fun v3=>
 (if v3 then some true else (a58 a3).bind fun v4=>
 some (!v4)).bind fun v5=>
 if v5 then
 some (0,1)
 else
 if (decide (a3<a2)) then
 some (0,0)
 else
 (b77 a2 a3 a1 [a0]).bind fun v6=>
 d8 FU (c4d v6 a0 a1 a3) (0,v6,0)
def a0u (a0:Laws) (a1:List api_Fact) (a2:List Claim) (a3:Int) (a4:Int) (a5:Int):Option (Int×Int):=
 (a4e a0 a1 a2 a3 a5).bind fun v1=>
 if (v1.2 != 0) then
 some (0,v1.2)
 else
 (b6i v1.1 a4 0 a5).bind fun v2=>
 some (v2.1,v2.2)
def c2u (v3:Knowledge) (r2:Int -> Option Bool) (v1:Int) (r7:(Knowledge×Int) -> Option Bool) (v6:Knowledge×Int):Option Bool:=
 if (decide (v6.2<(v3.Received.length:Int))) then
 (c8 v3.Received v6.2).bind fun v8=>
 (if (v8.Kind != 3) then some true else some (v8.Month != v6.1.Month)).bind fun v9=>
 if v9 then
 some false
 else
 r7 (v6.1,i64 (v6.2+1))
 else
 r2 (i64 (v1+1))
def c3m (a0:List Knowledge) (r2:Int -> Option Bool) (v1:Int):Option Bool:=
 if (decide (v1<(a0.length:Int))) then
 (c8 a0 v1).bind fun v3=>
 (if (decide (v1>0)) then (c8 a0 (i64 (v1-1))).bind fun v4=>
 some (decide (v4.Month >= v3.Month)) else some false).bind fun v5=>
 if v5 then
 some false
 else
 d8 FU (c2u v3 r2 v1) (v3,0)
 else
 some true
def b92 (a0:List Knowledge):Option Bool:=
 if (decide ((a0.length:Int)>120)) then
 some false
 else
 d8 FU (c3m a0) 0
def c8a:Option Unit:=
 none
def b9t (a0:Int):Option Bool:=
 (if (decide (a0 >= 0)) then some (decide (a0 <= 1000000000000)) else some false).bind fun v1=>
 some v1
def c3u (a0:Int):Option Int:=
 (b55 (i64 (a0*30)) 100).bind fun v1=>
 some v1
def b31 (a0:Int) (a1:Int):Option (Int×Int):=
 (b9t a1).bind fun v1=>
 (if (!v1) then some true else some (decide (a0<(-1000000000000:Int)))).bind fun v2=>
 (if v2 then some true else some (decide (a0>1000000000000))).bind fun v3=>
 if v3 then
 some (0,0)
 else
 if (decide ((i64 (a0-a1)) >= 0)) then
 some (a0,0)
 else
 (c3u a1).bind fun v4=>
 some (i64 (a1-(min (i64 (-(i64 (a0-a1)))) v4)),min (i64 (-(i64 (a0-a1)))) v4)
def b38 (a0:Laws) (a1:List Knowledge) (a2:Int) (a3:Int):Option (Unit×Int):=
 (a9l a0).bind fun v1=>
 if (v1 != 0) then
 some ((),v1)
 else
 (b92 a1).bind fun v2=>
 (if (!v2) then some true else some (decide (a2<1))).bind fun v3=>
 (if v3 then some true else some (decide (a2>99))).bind fun v4=>
 (if v4 then some true else some (decide (a3<0))).bind fun v5=>
 (if v5 then some true else some (decide (a3 >= 6))).bind fun v6=>
 if v6 then
 some ((),1)
 else
 (c8a).bind fun v7=>
 none
def a99 (a0:Laws) (a1:List Knowledge) (a2:Int) (a3:Int):Option ((List Entry)×Int):=
 (b38 a0 a1 a2 a3).bind fun v1=>
 if (v1.2 != 0) then
 some ([],v1.2)
 else
 none
def a5i (a5:Int) (a1:List api_Fact) (a2:List Claim) (a3:Int) (a4:Int) (r5:(Int×Laws×Int) -> Option (Int×Int)) (v4:Int×Laws×Int):Option (Int×Int):=
 if (decide (v4.1 >= 0)) then
 some (v4.2.2,0)
 else
 (if (v4.2.2==120) then some true else some (decide ((i64 ((i64 (a5+v4.2.2))+1))>2399))).bind fun v6=>
 if v6 then
 some (0,9)
 else
 (a6j v4.2.1 a1 a2 a3 a4 (i64 ((i64 (a5+v4.2.2))+1))).bind fun v7=>
 if (v7.2 != 0) then
 some (0,v7.2)
 else
 (b31 (i64 (v4.1+v7.1)) v7.1).bind fun v8=>
 r5 (i64 (v4.1+(i64 (v7.1-v8.1))),v4.2.1,i64 (v4.2.2+1))
def a24 (a0:Laws) (a1:List api_Fact) (a2:List Claim) (a3:Int) (a4:Int) (a5:Int) (a6:Int):Option (Int×Int):=
 (if (decide (a6<(-1000000000000:Int))) then some true else some (decide (a6>1000000000000))).bind fun v1=>
 (if v1 then some true else some (decide (a5<0))).bind fun v2=>
 (if v2 then some true else some (decide (a5>2399))).bind fun v3=>
 if v3 then
 some (0,1)
 else
 d8 FU (a5i a5 a1 a2 a3 a4) (a6,a0,0)
def a7g:Option Bool:=
 (a60 (⟨[],[],[],[],0⟩:pensionlaw26_Seeds)).bind fun v1=>
 (a0u v1.1 [] [] 1 0 1200).bind fun v2=>
 (a24 v1.1 [] [] 1 0 1200 0).bind fun v3=>
 (a24 v1.1 [] [] 1 0 1200 (-5:Int)).bind fun v4=>
 (a24 v1.1 [] [] 1 0 2400 0).bind fun v5=>
 (if (v2.1==0) then some (v2.2==0) else some false).bind fun v6=>
 (if v6 then some (v3.1==0) else some false).bind fun v7=>
 (if v7 then some (v3.2==0) else some false).bind fun v8=>
 (if v8 then some (v4.2==9) else some false).bind fun v9=>
 (if v9 then some (v5.2==1) else some false).bind fun v10=>
 some v10
def a3r (a0:pensionlaw26_Seeds) (a1:Int):Option Bool:=
 (a7l a0).bind fun v1=>
 (b6 a1 1000).bind fun v2=>
 (a6j v1.1 v1.2.1 v1.2.2 (i64 (99+(i64 (1+v2)))) 0 1200).bind fun v3=>
 (a0u v1.1 v1.2.1 v1.2.2 1 0 (i64 (-(i64 (1+v2))))).bind fun v4=>
 (a0u (⟨v1.1.States,[],v1.1.Rates⟩:Laws) v1.2.1 v1.2.2 1 0 1160).bind fun v5=>
 (a99 (⟨v1.1.States,[],v1.1.Rates⟩:Laws) [] 1 0).bind fun v6=>
 (a7g).bind fun v7=>
 (if v7 then some (v3.2==1) else some false).bind fun v8=>
 (if v8 then some (v4.2==1) else some false).bind fun v9=>
 (if v9 then some (v5.2==1) else some false).bind fun v10=>
 (if v10 then some (v5.1==0) else some false).bind fun v11=>
 (if v11 then some (v6.2==1) else some false).bind fun v12=>
 (if v12 then some ((v6.1.length:Int)==0) else some false).bind fun v13=>
 some v13
end Go.PL
namespace Go.PL
open Go
theorem j6 {n:Int} (h0: -9223372036854775808 <= n) (h1:n <= 9223372036854775807):i64 n=n:=by
 unfold i64;rw [IntKind.wrap_i64];omega
theorem e55 {n:Int} (h0:0 <= n) (h1:n <= 18446744073709551615):u64 n=n:=by
 unfold u64;rw [IntKind.wrap_u64];omega
theorem g37 (n:Int):u64 n=n%18446744073709551616:=by unfold u64;rw [IntKind.wrap_u64]
theorem c3h (n:Int):0 <= u64 n /\ u64 n <= 18446744073709551615:=by rw [g37];omega
theorem b5w {α:Type} (l:List α) (k:Nat):c8 l (k:Int)=l[k]? :=by unfold c8;rw [if_pos (Int.natCast_nonneg k),Int.toNat_natCast]
theorem e7x {α:Type} {l:List α} {i:Int} {x:α} (h0:0 <= i) (h:l[i.toNat]? =some x):c8 l i=some x:=by unfold c8;rw [if_pos h0];exact h
theorem b3n {b e:Bool}:(if b=true then some true else some e)=some (b||e):=by cases b<;>rfl
theorem a8r {b e:Bool}:(if b=true then some e else some false)=some (b&&e):=by cases b<;>rfl
theorem c86 {σ ρ:Type} {f:(σ -> Option ρ) -> σ -> Option ρ} (I:σ -> Prop) (μ:σ -> Nat) (Q:ρ -> Prop)
  (step: ∀s rec,I s -> (∃r,f rec s=some r /\ Q r) \/ ∃s',f rec s=rec s' /\ I s' /\ μ s'<μ s): ∀(k:Nat) (s:σ),I s -> μ s<k -> ∃r,d8 k f s=some r /\ Q r
 | 0,_,_,h=>absurd h (Nat.not_lt_zero _)
 | k+1,s,hs,hk=>by
   rcases step s (d8 k f) hs with ⟨r,h1,h2⟩ | ⟨s',h1,h2,h3⟩
   ·exact ⟨r,h1,h2⟩
   ·obtain ⟨r,h4,h5⟩:=c86 I μ Q step k s' h2 (by omega)
    exact ⟨r,by show f (d8 k f) s=_;rw [h1,h4],h5⟩
theorem b5o {σ ρ:Type} {f:(σ -> Option ρ) -> σ -> Option ρ} (I:σ -> Prop) (μ:σ -> Nat) (Q:ρ -> Prop) {s:σ} (h0:I s) (hμ:μ s<2^70)
  (step: ∀s rec,I s -> (∃r,f rec s=some r /\ Q r) \/ ∃s',f rec s=rec s' /\ I s' /\ μ s'<μ s): ∃r,d8 FU f s=some r /\ Q r:=
 c86 I μ Q step FU s h0 (by unfold FU;exact hμ)
theorem c7t {σ ρ:Type} {f:(σ -> Option ρ) -> σ -> Option ρ} (I:σ -> Prop) (μ:σ -> Nat) (Q:Option ρ -> Prop)
  (step: ∀s rec,I s -> Q (f rec s) \/ ∃s',f rec s=rec s' /\ I s' /\ μ s'<μ s): ∀(k:Nat) (s:σ),I s -> μ s<k -> Q (d8 k f s)
 | 0,_,_,h=>absurd h (Nat.not_lt_zero _)
 | k+1,s,hs,hk=>by
   rcases step s (d8 k f) hs with h1 | ⟨s',h1,h2,h3⟩
   ·exact h1
   ·show Q (f (d8 k f) s)
    rw [h1]
    exact c7t I μ Q step k s' h2 (by omega)
theorem c47 {σ ρ:Type} {f:(σ -> Option ρ) -> σ -> Option ρ} (I:σ -> Prop) (μ:σ -> Nat) (Q:Option ρ -> Prop) {s:σ} (h0:I s) (hμ:μ s<2^70)
  (step: ∀s rec,I s -> Q (f rec s) \/ ∃s',f rec s=rec s' /\ I s' /\ μ s'<μ s):Q (d8 FU f s):=
 c7t I μ Q step FU s h0 (by unfold FU;exact hμ)
theorem c4p {a b:Int} (h:b≠0):b5l a b=some (a.tmod b):=by unfold b5l;rw [if_neg h]
theorem d6f {a b:Int} (h:b≠0):b55 a b=some (i64 (a.tdiv b)):=by unfold b55;rw [if_neg h]
theorem b1t {α:Type} {bytes:Nat} {l x:List α} (h:(l.length+x.length)*bytes <= 140737488355328):a9h bytes l x=some (l++x):=by unfold a9h;rw [if_pos h]
theorem b6u {α:Type} {l:List α} {lo hi:Int} (h0:0 <= lo) (h1:lo <= hi) (h2:hi <= (l.length:Int)):a1q l lo hi=some ((l.drop lo.toNat).take (hi.toNat-lo.toNat)):=by
 unfold a1q;rw [if_pos ⟨h0,h1,h2⟩]
theorem c89 {a b:Int} (h:0 <= a):a.tmod b=a%b:=Int.tmod_eq_emod_of_nonneg h
theorem d7x {a b:Int} (h:0 <= a):a.tdiv b=a/b:=Int.tdiv_eq_ediv_of_nonneg h
end Go.PL
namespace Go.PL
open Go
theorem b9s {σ ρ S α:Type} {f:(σ -> Option ρ) -> σ -> Option ρ} (l:List α) (e:S -> Int -> σ) (I:S -> Nat -> Prop) (Q:Option ρ -> Prop) (hl:l.length<2^62)
  (hstep: ∀rec s (i:Nat) y,i<l.length -> l[i]? =some y -> I s i -> Q (f rec (e s (i:Int))) \/ ∃s',f rec (e s (i:Int))=rec (e s' ((i+1:Nat):Int)) /\ I s' (i+1))
  (hfin: ∀rec s,I s l.length -> Q (f rec (e s (l.length:Int)))) (s:S) (h0:I s 0):Q (d8 FU f (e s 0)):=by
 have key: ∀(k:Nat) (s:S) (i:Nat),i <= l.length -> I s i -> l.length-i<k -> Q (d8 k f (e s (i:Int))):=by
  intro k
  induction k with
  | zero=>intro s i _ _ h;omega
  | succ k ih=>
    intro s i hi hI hk
    show Q (f (d8 k f) (e s (i:Int)))
    by_cases h:i<l.length
    ·rcases hstep (d8 k f) s i l[i] h (List.getElem?_eq_getElem h) hI with h1 | ⟨s',h1,h2⟩
     ·exact h1
     ·rw [h1];exact ih s' (i+1) (by omega) h2 (by omega)
    ·have:i=l.length:=by omega
     subst this
     exact hfin _ _ hI
 have:(0:Int)=((0:Nat):Int):=rfl
 rw [this]
 exact key FU s 0 (Nat.zero_le _) h0 (by unfold FU;omega)
theorem c42 {x:Nat} (h:x<2^62):i64 ((x:Int)+1)=((x+1:Nat):Int):=by rw [j6 (by omega) (by omega)];simp
theorem c76 {α:Type} {l:List α} {i:Nat} {y:α} (h:l[i]? =some y):c8 l (i:Int)=some y:=by rw [b5w];exact h
theorem d22 {α:Type} {l:List α} {i:Nat} {y:α} (h:l[i]? =some y):l.take (i+1)=l.take i++[y]:=by
 have hi:i<l.length:=by
  rcases Nat.lt_or_ge i l.length with h1 | h1
  ·exact h1
  ·rw [List.getElem?_eq_none h1] at h;cases h
 rw [List.take_succ_eq_append_getElem hi]
 rw [List.getElem?_eq_getElem hi] at h
 rw [Option.some.inj h]
end Go.PL
namespace Go.PL
open Go Go.SX
def Tot {α:Type} (o:Option α) (Q:α -> Prop):Prop:= ∃a,o=some a /\ Q a
section
variable {α β:Type} {o:Option α} {Q R:α -> Prop} {S:β -> Prop} {f:α -> Option β} {a:α}
theorem Tot.some (h:Q a):Tot (some a) Q:=⟨a,rfl,h⟩
theorem Tot.bind (h:Tot o Q) (hf: ∀a,Q a -> Tot (f a) S):Tot (Option.bind o f) S:=by
 obtain ⟨a,rfl,hq⟩:=h
 exact hf a hq
theorem Tot.ite {c:Prop} [Decidable c] {x y:Option α} (h1:c -> Tot x Q) (h2: ¬c -> Tot y Q):Tot (if c then x else y) Q:=by
 split
 ·exact h1 (by assumption)
 ·exact h2 (by assumption)
theorem Tot.join (h:Tot (f a) S):Tot (joinC f a) S:=h
end
theorem Tot.loop {σ ρ:Type} {f:(σ -> Option ρ) -> σ -> Option ρ} (I:σ -> Prop) (μ:σ -> Nat) {Q:ρ -> Prop} {s:σ} (h0:I s) (hμ:μ s<2^70) (step: ∀(r:σ -> Option ρ) (s:σ),I s -> (∀s',I s' -> μ s'<μ s -> Tot (r s') Q) -> Tot (f r s) Q):Tot (d8 FU f s) Q:=by
 have key: ∀(k:Nat) (s:σ),I s -> μ s<k -> Tot (d8 k f s) Q:=by
  intro k
  induction k with
  | zero=>intro s _ h;omega
  | succ k ih=>
    intro s hI hk
    exact step (d8 k f) s hI fun s' h1 h2=>ih s' h1 (by omega)
 exact key FU s h0 (by unfold FU;exact hμ)
theorem f26 {s:ByteArray} {i:Int} (h0:0 <= i) (h1:i<(s.size:Int)):Tot (b0v s i) fun b=>0 <= b /\ b <= 255:=by
 unfold b0v
 rw [if_pos h0]
 have hlt:i.toNat<s.size:=by omega
 rw [getElem?_pos s i.toNat hlt]
 refine ⟨_,rfl,?_⟩
 have:=(s[i.toNat]'hlt).toNat_lt
 exact ⟨Int.natCast_nonneg _,by show (((s[i.toNat]'hlt).toNat:Nat):Int) <= 255;omega⟩
theorem d11 {s:ByteArray} {a b:Int} (h0:0 <= a) (h1:a <= b) (h2:b <= (s.size:Int)):Tot (b8d s a b) fun r=>(r.size:Int)=b-a:=by
 unfold b8d
 rw [if_pos ⟨h0,h1,h2⟩]
 refine ⟨_,rfl,?_⟩
 show ((s.extract a.toNat b.toNat).size:Int)=b-a
 rw [ByteArray.size_extract]
 omega
theorem i8 {a b:ByteArray} (h:a.size+b.size <= 9223372036854775807):Tot (a4o a b) fun r=>r.size=a.size+b.size:=by
 unfold a4o
 rw [if_pos h]
 exact ⟨_,rfl,ByteArray.size_append⟩
theorem b04 {α:Type} {l:List α} {i:Int} (h0:0 <= i) (h1:i<(l.length:Int)):Tot (c8 l i) fun x=>x∈l:=by
 unfold c8
 rw [if_pos h0]
 have hlt:i.toNat<l.length:=by omega
 rw [List.getElem?_eq_getElem hlt]
 exact ⟨_,rfl,List.getElem_mem hlt⟩
theorem c07 {α:Type} {k:Nat} {l x:List α} (h:(l.length+x.length)*k <= 140737488355328):Tot (a9h k l x) fun r=>r=l++x:=⟨_,b1t h,rfl⟩
theorem b57 {a b:Int} (h0:0 <= a) (hb:0<b):Tot (b5l a b) fun r=>r=a%b /\ 0 <= r /\ r<b /\ r <= a:=by
 rw [c4p (by omega),c89 h0]
 have h1:=Int.emod_nonneg a (show b≠0 by omega)
 have h2:=Int.emod_lt_of_pos a hb
 have h3:a%b <= a:=by
  have:=Int.emod_add_mul_ediv a b
  have h5:0 <= b*(a/b):=Int.mul_nonneg (by omega) (Int.ediv_nonneg h0 (by omega))
  omega
 exact ⟨_,rfl,rfl,h1,h2,h3⟩
theorem c43 {a b:Int} (h0:0 <= a) (h1:a <= 9223372036854775807) (hb:0<b):Tot (b55 a b) fun r=>r=a/b /\ 0 <= r /\ r <= a:=by
 rw [d6f (by omega),d7x h0]
 have g1:=Int.ediv_nonneg h0 (show 0 <= b by omega)
 have g2:a/b <= a:=Int.ediv_le_self b h0
 rw [j6 (by omega) (by omega)]
 exact ⟨_,rfl,rfl,g1,g2⟩
theorem b69 {x:Int} (h0:0 <= x) (h1:x <= 4611686018427387904):i64 (x+1)=x+1:=j6 (by omega) (by omega)
theorem a0r {a n:Int} (hn:0<n) (h1:n <= 9223372036854775807):Tot (b6 a n) fun r=>0 <= r /\ r<n:=by
 unfold b6
 rw [c4p (by omega),Option.bind_some]
 have h2:=Int.tmod_lt_of_pos a hn
 have h3: -n<a.tmod n:=Int.lt_tmod_of_pos a hn
 refine Tot.ite (fun h=> ?_) fun h=> ?_
 ·simp at h
  rw [j6 (by omega) (by omega)]
  exact Tot.some (by omega)
 ·simp at h
  exact Tot.some (by omega)
theorem a19 (l:List Int) (i:Int) (hl:l.length <= 9223372036854775807):Tot (d7 l i) fun _=>True:=by
 unfold d7
 refine Tot.ite (fun h=>Tot.some trivial) fun h=> ?_
 have hp:0<l.length:=by
  rcases Nat.eq_zero_or_pos l.length with h0 | h0
  ·rw [h0] at h;exact absurd rfl h
  ·exact h0
 refine Tot.bind (a0r (by omega) (by omega)) fun v hv=> ?_
 exact Tot.bind (b04 (by omega) (by omega)) fun x _=>Tot.some trivial
theorem a87 {n:Int} (h0:0 <= n) (h1:n <= 9999999):Tot (k7 n) fun r=>1 <= r.size /\ r.size <= 8:=by
 unfold k7
 have hs:a4f.size=10:=by decide
 refine Tot.loop (I:=fun v:Int×ByteArray=>0 <= v.1 /\ ((v.1 <= 9 /\ v.2.size <= 6) \/ (v.1 <= 99 /\ v.2.size <= 5) \/ (v.1 <= 999 /\ v.2.size <= 4) \/ (v.1 <= 9999 /\ v.2.size <= 3) \/ (v.1 <= 99999 /\ v.2.size <= 2) \/ (v.1 <= 999999 /\ v.2.size <= 1) \/ (v.1 <= 9999999 /\ v.2.size <= 0))) (μ:=fun v=>v.1.toNat) (s:=(n,a1v)) ⟨h0,.inr (.inr (.inr (.inr (.inr (.inr ⟨h1,(by decide:a1v.size <= 0)⟩)))))⟩ (by show n.toNat<_;omega) ?_
 intro r v hI ih
 obtain ⟨g1,g2⟩:=hI
 unfold a0w
 refine Tot.ite (fun h=> ?_) fun h=> ?_
 ·simp at h
  refine Tot.bind (b57 g1 (by omega)) fun a ha=> ?_
  refine Tot.bind (b57 g1 (by omega)) fun b hb=> ?_
  have hab:a=b:=by omega
  subst hab
  rw [b69 (by omega) (by omega)]
  refine Tot.bind (d11 (by omega) (by omega) (by rw [hs];omega)) fun c hc=> ?_
  refine Tot.bind (i8 (by omega)) fun d hd=> ?_
  refine Tot.bind (c43 g1 (by omega) (by omega)) fun e he=> ?_
  refine ih (e,d) ⟨he.2.1,?_⟩ (by show e.toNat<v.1.toNat;omega)
  show (e <= 9 /\ d.size <= 6) \/ (e <= 99 /\ d.size <= 5) \/ (e <= 999 /\ d.size <= 4) \/ (e <= 9999 /\ d.size <= 3) \/ (e <= 99999 /\ d.size <= 2) \/ (e <= 999999 /\ d.size <= 1) \/ (e <= 9999999 /\ d.size <= 0)
  omega
 ·simp at h
  rw [b69 (by omega) (by omega)]
  refine Tot.bind (d11 (by omega) (by omega) (by rw [hs];omega)) fun c hc=> ?_
  exact Tot.bind (i8 (by omega)) fun d hd=>Tot.some (by omega)
theorem d6d {n:Int} (h0:0 <= n) (h1:n <= 999999):Tot (s7 n) fun r=>r.size <= 25:=by
 unfold s7
 have hs:a9z.size=1:=by decide
 refine Tot.bind (c43 h0 (by omega) (by omega)) fun a ha=> ?_
 refine Tot.bind (a87 (by omega) (by omega)) fun b hb=> ?_
 refine Tot.bind (i8 (by omega)) fun c hc=> ?_
 refine Tot.bind (c43 h0 (by omega) (by omega)) fun d hd=> ?_
 refine Tot.bind (b57 (by omega) (by omega)) fun e he=> ?_
 refine Tot.bind (a87 (by omega) (by omega)) fun g hg=> ?_
 refine Tot.bind (i8 (by omega)) fun i hi=> ?_
 refine Tot.bind (b57 h0 (by omega)) fun j hj=> ?_
 refine Tot.bind (a87 (by omega) (by omega)) fun k hk=> ?_
 exact Tot.bind (i8 (by omega)) fun l hl=>Tot.some (by omega)
theorem c0e {x:Int} (h0:0 <= x) (h1:x <= 9999999):Tot (k7 (i64 x)) fun r=>1 <= r.size /\ r.size <= 8:=by
 rw [j6 (by omega) (by omega)];exact a87 h0 h1
theorem b9z {x:Int} (h0:0 <= x) (h1:x <= 999999):Tot (s7 (i64 x)) fun r=>r.size <= 25:=by
 rw [j6 (by omega) (by omega)];exact d6d h0 h1
theorem e02 {a b:Int} (hb:b≠0):Tot (b55 a b) fun _=>True:=⟨_,d6f hb,trivial⟩
theorem f1p {a b:Int} (hb:b≠0):Tot (b5l a b) fun _=>True:=⟨_,c4p hb,trivial⟩
end Go.PL
namespace Go.PL
open Go Go.SX
def e1s (b:Int):Bool:=decide (b >= 97)&&decide (b <= 122)
def d10 (b:Int):Bool:=decide (b >= 48)&&decide (b <= 57)
theorem d3a (b:Int):a3m b=some (e1s b):=by
 unfold a3m e1s
 rw [a8r,Option.bind_some]
theorem d18 (b:Int):a2v b=some (d10 b):=by
 unfold a2v d10
 rw [a8r,Option.bind_some]
end Go.PL
namespace Go.PL
open Go Go.SX
theorem c6i (a:Int): ∃v,a2k a=some v /\ 0 <= v /\ v <= 18446744073709551615 /\ (0 <= a -> a <= 18446744073709551615 -> v=a):=by
 unfold a2k
 split
 ·rename_i h
  simp at h
  exact ⟨_,rfl,(c3h _).1,(c3h _).2,fun h0=>by omega⟩
 ·exact ⟨_,rfl,(c3h _).1,(c3h _).2,fun h0 h1=>e55 h0 h1⟩
theorem f0o {a b:Int} (ha:0 <= a) (hb:0 <= b) (h:0<a+b) (hma:a <= 18446744073709551615) (hm:b <= 18446744073709551615):Tot (a2b a b) fun g=>0<g /\ g <= 18446744073709551615:=by
 unfold a2b
 refine Tot.loop (I:=fun v:Int×Int=>0 <= v.1 /\ 0 <= v.2 /\ 0<v.1+v.2 /\ v.1 <= 18446744073709551615 /\ v.2 <= 18446744073709551615) (μ:=fun v=>v.2.toNat) ⟨ha,hb,h,hma,hm⟩ (by show b.toNat<_;omega) ?_
 intro r v hI ih
 obtain ⟨g1,g2,g3,g4,g5⟩:=hI
 unfold b0e
 refine Tot.ite (fun hc=> ?_) fun hc=>Tot.some ⟨by simp at hc;omega,g4⟩
 have hv:0<v.2:=by
  have:v.2≠0:=by simpa using hc
  omega
 refine Tot.bind (b57 g1 hv) fun c hcc=>ih (v.2,c) ⟨g2,hcc.2.1,by show 0<v.2+c;omega,g5,by show c <= _;omega⟩ (by show c.toNat<v.2.toNat;omega)
end Go.PL
namespace Go.PL
open Go Go.SX
theorem c3v (f:Fraction):Tot (y8 f) fun b=>b=true -> 1 <= f.Den /\ f.Den <= 1000000000 /\ -1000000000000000 <= f.Num /\ f.Num <= 1000000000000000:=by
 unfold y8
 simp only [a8r,Option.bind_some]
 refine Tot.bind (Q:=fun b=>b=true -> 1 <= f.Den /\ f.Den <= 1000000000 /\ -1000000000000000 <= f.Num /\ f.Num <= 1000000000000000) (Tot.ite (fun h=> ?_) fun _=>Tot.some fun h=>by cases h) fun b hb=>Tot.some hb
 simp at h
 obtain ⟨x,hx,x0,x1,_⟩:=c6i f.Num
 rw [hx,Option.bind_some,e55 (by omega) (by omega)]
 exact Tot.bind (f0o x0 (by omega) (by omega) x1 (by omega)) fun _ _=>Tot.some fun _=>⟨by omega,by omega,by omega,by omega⟩
theorem d7d {n:Int} (h0:0 <= n) (h1:n <= 1000000000000000):Tot (a5a n 1) fun r=>(r.size:Int) <= n+1:=by
 unfold a5a
 have hs:a4f.size=10:=by decide
 refine Tot.loop (I:=fun v:Int×ByteArray=>0 <= v.1 /\ v.1 <= n /\ v.1+(v.2.size:Int) <= n+1) (μ:=fun v=>2*v.1.toNat+(1-v.2.size)) (s:=(n,a1v)) ⟨h0,Int.le_refl _,by show n+(a1v.size:Int) <= n+1;rw [show a1v.size=0 from rfl];omega⟩ (by show 2*n.toNat+(1-a1v.size)<_;omega) ?_
 intro r v hI ih
 obtain ⟨g1,g2,g3⟩:=hI
 unfold b2s
 rw [b3n,Option.bind_some]
 refine Tot.ite (fun h=> ?_) fun _=>Tot.some (by omega)
 simp at h
 refine Tot.bind (b57 g1 (by omega)) fun a ha=>Tot.bind (b57 g1 (by omega)) fun b hb=> ?_
 have hab:a=b:=by omega
 subst hab
 rw [b69 (by omega) (by omega)]
 refine Tot.bind (d11 (by omega) (by omega) (by rw [hs];omega)) fun c hc=>Tot.bind (i8 (by omega)) fun d hd=>Tot.bind (c43 g1 (by omega) (by omega)) fun e he=> ?_
 refine ih (e,d) ⟨he.2.1,by show e <= n;omega,by show e+(d.size:Int) <= n+1;omega⟩ (by show 2*e.toNat+(1-d.size)<2*v.1.toNat+(1-v.2.size);omega)
theorem c1r {n:Int} (h0:0 <= n) (h1:n <= 999999999):Tot (a2p ⟨n,1⟩) fun r=>r.size <= 1000000000:=by
 unfold a2p
 refine Tot.bind (c3v _) fun b _=>Tot.ite (fun _=>Tot.some (by decide)) fun _=> ?_
 obtain ⟨x,hx,x0,x1,x2⟩:=c6i n
 have:=x2 h0 (by omega)
 subst this
 dsimp only
 rw [hx,Option.bind_some,j6 (by omega) (by omega)]
 refine Tot.bind (d7d h0 (by omega)) fun d hd=> ?_
 rw [if_neg (by simp;omega)]
 refine Tot.join ?_
 unfold a3p
 rw [if_neg (by simp)]
 exact Tot.some (by show d.size <= _;omega)
end Go.PL
namespace Go.PL
open Go Go.SX
theorem a8n (l:List Int) (k:Int) (s:ByteArray) (hl:l.length <= 9223372036854775807) (hs:s.size <= 2400):Tot (a1e (l,k,s)) fun r=>r.size <= 2500:=by
 unfold a1e
 try dsimp only
 have hstr__7d_:b29.size=2:=by decide
 have hstrh_a41f67:b7s.size=51:=by decide
 refine Tot.bind (a19 _ _ hl) fun v105 hv105=> ?_
 refine Tot.bind (a0r (by omega) (by omega)) fun v106 hv106=> ?_
 refine Tot.ite (fun hc=> ?_) fun hc=> ?_
 ·skip
  refine Tot.bind (i8 (by omega)) fun v107 hv107=> ?_
  refine Tot.bind (i8 (by omega)) fun v108 hv108=> ?_
  exact Tot.some (by first | exact trivial | omega)
 ·skip
  refine Tot.bind (i8 (by omega)) fun v109 hv109=> ?_
  exact Tot.some (by first | exact trivial | omega)
theorem a8k (l:List Int) (k:Int) (s:ByteArray) (hl:l.length <= 9223372036854775807) (hs:s.size <= 1900):Tot (a1g (l,k,s)) fun r=>r.size <= 2500:=by
 unfold a1g
 try dsimp only
 have hstr__3b_:a4d.size=2:=by decide
 have hstr_d_pay_:c4e.size=6:=by decide
 have hstr_reduce_old_by_:b0n.size=14:=by decide
 have hstrh_635cfa:c2a.size=14:=by decide
 have hstrh_a54acb:c2f.size=27:=by decide
 have hstrh_af57c7:c1n.size=27:=by decide
 have hstrh_bfa283:c1q.size=29:=by decide
 refine Tot.bind (a19 _ _ hl) fun v79 hv79=> ?_
 refine Tot.bind (a0r (by omega) (by omega)) fun v80 hv80=> ?_
 refine Tot.bind (a87 (by omega) (by omega)) fun v81 hv81=> ?_
 refine Tot.bind (i8 (by omega)) fun v82 hv82=> ?_
 refine Tot.bind (i8 (by omega)) fun v83 hv83=> ?_
 refine Tot.bind (a19 _ _ hl) fun v84 hv84=> ?_
 refine Tot.bind (a0r (by omega) (by omega)) fun v85 hv85=> ?_
 refine Tot.bind (c0e (by omega) (by omega)) fun v86 hv86=> ?_
 refine Tot.bind (i8 (by omega)) fun v87 hv87=> ?_
 refine Tot.bind (i8 (by omega)) fun v88 hv88=> ?_
 refine Tot.bind (i8 (by omega)) fun v89 hv89=> ?_
 refine Tot.bind (a19 _ _ hl) fun v90 hv90=> ?_
 refine Tot.bind (a0r (by omega) (by omega)) fun v91 hv91=> ?_
 refine Tot.bind (a87 (by omega) (by omega)) fun v92 hv92=> ?_
 refine Tot.bind (i8 (by omega)) fun v93 hv93=> ?_
 refine Tot.bind (i8 (by omega)) fun v94 hv94=> ?_
 refine Tot.bind (i8 (by omega)) fun v95 hv95=> ?_
 refine Tot.bind (a19 _ _ hl) fun v96 hv96=> ?_
 refine Tot.bind (a0r (by omega) (by omega)) fun v97 hv97=> ?_
 refine Tot.ite (fun hc=> ?_) fun hc=> ?_
 ·skip
  refine Tot.bind (a19 _ _ hl) fun v98 hv98=> ?_
  refine Tot.bind (a0r (by omega) (by omega)) fun v99 hv99=> ?_
  refine Tot.bind (b9z (by omega) (by omega)) fun v100 hv100=> ?_
  refine Tot.bind (i8 (by omega)) fun v101 hv101=> ?_
  refine Tot.bind (i8 (by omega)) fun v102 hv102=> ?_
  refine Tot.bind (i8 (by omega)) fun v103 hv103=> ?_
  exact Tot.join (a8n _ _ _ hl (by omega))
 ·skip
  exact Tot.join (a8n _ _ _ hl (by omega))
theorem a8l (l:List Int) (k:Int) (t s:ByteArray) (hl:l.length <= 9223372036854775807) (ht:t.size <= 8) (hs:s.size <= 900):Tot (a1f (l,k,t,s)) fun r=>r.size <= 2500:=by
 unfold a1f
 try dsimp only
 have hstr__3b_:a4d.size=2:=by decide
 have hstr_m_29_3b_:c02.size=4:=by decide
 have hstrh_196854:c1f.size=22:=by decide
 have hstrh_34ba8d:c29.size=9:=by decide
 have hstrh_4d1f9b:c2e.size=13:=by decide
 have hstrh_58c487:c1t.size=16:=by decide
 have hstrh_7bee7c:c1k.size=31:=by decide
 have hstrh_7ff122:c1c.size=25:=by decide
 have hstrh_85bf07:c1i.size=13:=by decide
 have hstrh_98dd23:c1g.size=20:=by decide
 have hstrh_b388fe:c24.size=66:=by decide
 have hstrh_d82640:c1y.size=23:=by decide
 have hstrh_da8d59:c2b.size=26:=by decide
 refine Tot.bind (a19 _ _ hl) fun v29 hv29=> ?_
 refine Tot.bind (a0r (by omega) (by omega)) fun v30 hv30=> ?_
 refine Tot.bind (b9z (by omega) (by omega)) fun v31 hv31=> ?_
 refine Tot.bind (i8 (by omega)) fun v32 hv32=> ?_
 refine Tot.bind (i8 (by omega)) fun v33 hv33=> ?_
 refine Tot.bind (a19 _ _ hl) fun v34 hv34=> ?_
 refine Tot.bind (a0r (by omega) (by omega)) fun v35 hv35=> ?_
 refine Tot.bind (b9z (by omega) (by omega)) fun v36 hv36=> ?_
 refine Tot.bind (i8 (by omega)) fun v37 hv37=> ?_
 refine Tot.bind (i8 (by omega)) fun v38 hv38=> ?_
 refine Tot.bind (i8 (by omega)) fun v39 hv39=> ?_
 refine Tot.bind (i8 (by omega)) fun v40 hv40=> ?_
 refine Tot.bind (i8 (by omega)) fun v41 hv41=> ?_
 refine Tot.bind (a19 _ _ hl) fun v42 hv42=> ?_
 refine Tot.bind (a0r (by omega) (by omega)) fun v43 hv43=> ?_
 refine Tot.bind (b9z (by omega) (by omega)) fun v44 hv44=> ?_
 refine Tot.bind (i8 (by omega)) fun v45 hv45=> ?_
 refine Tot.bind (i8 (by omega)) fun v46 hv46=> ?_
 refine Tot.bind (i8 (by omega)) fun v47 hv47=> ?_
 refine Tot.bind (a19 _ _ hl) fun v48 hv48=> ?_
 refine Tot.bind (a0r (by omega) (by omega)) fun v49 hv49=> ?_
 refine Tot.bind (c0e (by omega) (by omega)) fun v50 hv50=> ?_
 refine Tot.bind (i8 (by omega)) fun v51 hv51=> ?_
 refine Tot.bind (i8 (by omega)) fun v52 hv52=> ?_
 refine Tot.bind (a19 _ _ hl) fun v53 hv53=> ?_
 refine Tot.bind (a0r (by omega) (by omega)) fun v54 hv54=> ?_
 refine Tot.bind (a87 (by omega) (by omega)) fun v55 hv55=> ?_
 refine Tot.bind (i8 (by omega)) fun v56 hv56=> ?_
 refine Tot.bind (i8 (by omega)) fun v57 hv57=> ?_
 refine Tot.bind (a19 _ _ hl) fun v58 hv58=> ?_
 refine Tot.bind (a0r (by omega) (by omega)) fun v59 hv59=> ?_
 refine Tot.bind (a87 (by omega) (by omega)) fun v60 hv60=> ?_
 refine Tot.bind (i8 (by omega)) fun v61 hv61=> ?_
 refine Tot.bind (i8 (by omega)) fun v62 hv62=> ?_
 refine Tot.bind (i8 (by omega)) fun v63 hv63=> ?_
 refine Tot.bind (a19 _ _ hl) fun v64 hv64=> ?_
 refine Tot.bind (a0r (by omega) (by omega)) fun v65 hv65=> ?_
 refine Tot.bind (a87 (by omega) (by omega)) fun v66 hv66=> ?_
 refine Tot.bind (i8 (by omega)) fun v67 hv67=> ?_
 refine Tot.bind (i8 (by omega)) fun v68 hv68=> ?_
 refine Tot.bind (a19 _ _ hl) fun v69 hv69=> ?_
 refine Tot.bind (a0r (by omega) (by omega)) fun v70 hv70=> ?_
 refine Tot.bind (b9z (by omega) (by omega)) fun v71 hv71=> ?_
 refine Tot.bind (i8 (by omega)) fun v72 hv72=> ?_
 refine Tot.bind (i8 (by omega)) fun v73 hv73=> ?_
 refine Tot.bind (i8 (by omega)) fun v74 hv74=> ?_
 refine Tot.bind (a19 _ _ hl) fun v75 hv75=> ?_
 refine Tot.bind (a0r (by omega) (by omega)) fun v76 hv76=> ?_
 refine Tot.ite (fun hc=> ?_) fun hc=> ?_
 ·skip
  refine Tot.bind (i8 (by omega)) fun v77 hv77=> ?_
  exact Tot.join (a8k _ _ _ hl (by omega))
 ·skip
  exact Tot.join (a8k _ _ _ hl (by omega))
theorem a8m (l:List Int) (k:Int) (t s:ByteArray) (hl:l.length <= 9223372036854775807) (ht:t.size <= 8) (hs:s.size <= 800):Tot (a1d (l,k,t,s)) fun r=>r.size <= 2500:=by
 unfold a1d
 try dsimp only
 have hstrh_2afe9d:c1a.size=18:=by decide
 refine Tot.bind (a19 _ _ hl) fun v25 hv25=> ?_
 refine Tot.bind (a0r (by omega) (by omega)) fun v26 hv26=> ?_
 refine Tot.ite (fun hc=> ?_) fun hc=> ?_
 ·skip
  refine Tot.bind (i8 (by omega)) fun v27 hv27=> ?_
  exact Tot.join (a8l _ _ _ _ hl ht (by omega))
 ·skip
  exact Tot.join (a8l _ _ _ _ hl ht (by omega))
theorem a2o (l:List Int) (k:Int) (t s:ByteArray) (hl:l.length <= 9223372036854775807) (ht:t.size <= 8) (hs:s.size <= 400):Tot (a02 (l,k,t,s)) fun r=>r.size <= 2500:=by
 unfold a02
 try dsimp only
 have hstr__3b_:a4d.size=2:=by decide
 have hstrh_405077:c23.size=19:=by decide
 have hstrh_f7dc2d:c1u.size=42:=by decide
 refine Tot.bind (a19 _ _ hl) fun v10 hv10=> ?_
 refine Tot.bind (a0r (by omega) (by omega)) fun v11 hv11=> ?_
 refine Tot.bind (c0e (by omega) (by omega)) fun v12 hv12=> ?_
 refine Tot.bind (i8 (by omega)) fun v13 hv13=> ?_
 refine Tot.bind (i8 (by omega)) fun v14 hv14=> ?_
 refine Tot.bind (i8 (by omega)) fun v15 hv15=> ?_
 refine Tot.bind (a19 _ _ hl) fun v16 hv16=> ?_
 refine Tot.bind (a0r (by omega) (by omega)) fun v17 hv17=> ?_
 refine Tot.ite (fun hc=> ?_) fun hc=> ?_
 ·skip
  refine Tot.bind (a19 _ _ hl) fun v18 hv18=> ?_
  refine Tot.bind (a0r (by omega) (by omega)) fun v19 hv19=> ?_
  refine Tot.bind (c0e (by omega) (by omega)) fun v20 hv20=> ?_
  refine Tot.bind (i8 (by omega)) fun v21 hv21=> ?_
  refine Tot.bind (i8 (by omega)) fun v22 hv22=> ?_
  refine Tot.bind (i8 (by omega)) fun v23 hv23=> ?_
  exact Tot.join (a8m _ _ _ _ hl ht (by omega))
 ·skip
  exact Tot.join (a8m _ _ _ _ hl ht (by omega))
theorem a18 (a:ByteArray) (l:List Int) (k:Int) (hl:l.length <= 9223372036854775807) (ha:a.size <= 20):Tot (a0z a l k) fun r=>r.size <= 2500:=by
 unfold a0z
 try dsimp only
 have hstr___7b_round_:b0h.size=9:=by decide
 have hstr_down_1_3b_:b66.size=8:=by decide
 have hstr_even_10_3b_:b4a.size=9:=by decide
 have hstr_from__40:b5j.size=6:=by decide
 have hstr_half_5_3b_:b62.size=8:=by decide
 have hstr_up_1_3b_:b96.size=6:=by decide
 refine Tot.bind (a19 _ _ hl) fun v1 hv1=> ?_
 refine Tot.bind (a0r (by omega) (by omega)) fun v2 hv2=> ?_
 refine Tot.bind (c0e (by omega) (by omega)) fun v3 hv3=> ?_
 refine Tot.bind (i8 (by omega)) fun v4 hv4=> ?_
 refine Tot.bind (i8 (by omega)) fun v5 hv5=> ?_
 refine Tot.bind (a19 _ _ hl) fun v6 hv6=> ?_
 refine Tot.bind (a0r (by omega) (by omega)) fun v7 hv7=> ?_
 refine Tot.ite (fun hc=> ?_) fun hc=> ?_
 ·skip
  refine Tot.bind (i8 (by omega)) fun v8 hv8=> ?_
  exact Tot.join (a2o _ _ _ _ hl (by omega) (by omega))
 ·skip
  refine Tot.ite (fun hc=> ?_) fun hc=> ?_
  ·skip
   refine Tot.bind (i8 (by omega)) fun v110 hv110=> ?_
   exact Tot.join (a2o _ _ _ _ hl (by omega) (by omega))
  ·skip
   refine Tot.ite (fun hc=> ?_) fun hc=> ?_
   ·skip
    refine Tot.bind (i8 (by omega)) fun v111 hv111=> ?_
    exact Tot.join (a2o _ _ _ _ hl (by omega) (by omega))
   ·skip
    refine Tot.bind (i8 (by omega)) fun v112 hv112=> ?_
    exact Tot.join (a2o _ _ _ _ hl (by omega) (by omega))
theorem a9x (k:Int) (l:List Int) (s:ByteArray) (hl:l.length <= 9223372036854775807) (hs:s.size <= 6000):Tot (a33 (k,l,s)) fun r=>True:=by
 unfold a33
 try dsimp only
 have hstr_2001_2d01_2d01:a7h.size=10:=by decide
 have hstr__7d:a2w.size=1:=by decide
 refine Tot.bind (a19 _ _ hl) fun v15 hv15=> ?_
 refine Tot.bind (a0r (by omega) (by omega)) fun v16 hv16=> ?_
 refine Tot.ite (fun hc=> ?_) fun hc=> ?_
 ·skip
  refine Tot.bind (a18 _ _ _ hl (by decide)) fun v17 hv17=> ?_
  refine Tot.bind (i8 (by omega)) fun v18 hv18=> ?_
  refine Tot.bind (i8 (by omega)) fun v19 hv19=> ?_
  exact Tot.some (by first | exact trivial | omega)
 ·skip
  refine Tot.bind (i8 (by omega)) fun v20 hv20=> ?_
  exact Tot.some (by first | exact trivial | omega)
theorem c0t {k:Int} (l:List Int) (hl:l.length <= 9223372036854775807) (h0:0 <= k) (h3:k<3):Tot (a14 k l) fun r=>True:=by
 unfold a14
 try dsimp only
 have hstr_1900_2d01_2d01:a7f.size=10:=by decide
 have hstr_1996_2d07_2d01:a7o.size=10:=by decide
 have hstr___7b_:c2x.size=3:=by decide
 have hstr__currency_:b24.size=10:=by decide
 have hstr_alba:b7y.size=4:=by decide
 have hstr_bora:b7i.size=4:=by decide
 have hstr_cedar:b4r.size=5:=by decide
 have hstr_statute_:b5p.size=8:=by decide
 have hn: ∀x∈[b7y,b7i,b4r],x.size <= 10:=by decide
 refine Tot.bind (b04 (l:=[b7y,b7i,b4r]) h0 h3) fun v1 hv1=> ?_
 refine Tot.bind (b04 (l:=[b7y,b7i,b4r]) h0 h3) fun v2 hv2=> ?_
 have hv2:=hn v2 hv2
 refine Tot.bind (i8 (by omega)) fun v3 hv3=> ?_
 refine Tot.bind (i8 (by omega)) fun v4 hv4=> ?_
 refine Tot.bind (c0e (by omega) (by omega)) fun v5 hv5=> ?_
 refine Tot.bind (i8 (by omega)) fun v6 hv6=> ?_
 refine Tot.bind (i8 (by omega)) fun v7 hv7=> ?_
 refine Tot.bind (a18 _ _ _ hl (by decide)) fun v8 hv8=> ?_
 refine Tot.bind (i8 (by omega)) fun v9 hv9=> ?_
 refine Tot.bind (a19 _ _ hl) fun v10 hv10=> ?_
 refine Tot.bind (a0r (by omega) (by omega)) fun v11 hv11=> ?_
 refine Tot.ite (fun hc=> ?_) fun hc=> ?_
 ·skip
  refine Tot.bind (a18 _ _ _ hl (by decide)) fun v12 hv12=> ?_
  refine Tot.bind (i8 (by omega)) fun v13 hv13=> ?_
  exact Tot.join (a9x _ _ _ hl (by omega))
 ·skip
  exact Tot.join (a9x _ _ _ hl (by omega))
end Go.PL
namespace Go.PL
open Go Go.SX
theorem e7m {l:List Int} (hl:l.length <= 9223372036854775807):Tot (a88 l) fun r=>r.length=15:=by
 unfold a88
 refine Tot.loop (I:=fun v:List api_Fact×Int=>1 <= v.2 /\ v.2 <= 3 /\ (v.1.length:Int)=6*(v.2-1)) (μ:=fun v=>(3-v.2).toNat) ⟨Int.le_refl _,by show (1:Int) <= 3;omega,rfl⟩ (by show (3-1:Int).toNat<_;omega) ?_
 intro r v hI ih
 obtain ⟨g1,g2,g3⟩:=hI
 unfold b3f
 refine Tot.ite (fun hc=> ?_) fun hc=> ?_
 ·simp at hc
  rw [b69 (by omega) (by omega)]
  repeat' first
   | (refine Tot.bind (a19 _ _ hl) fun _ _=> ?_)
   | (refine Tot.bind (a0r (by omega) (by omega)) fun _ _=> ?_)
   | (refine Tot.bind (c07 (by simp;omega)) fun _ h=> ?_;subst h)
  exact ih _ ⟨by show 1 <= v.2+1;omega,by show v.2+1 <= 3;omega,by simp;omega⟩ (by show (3-(v.2+1)).toNat<(3-v.2).toNat;omega)
 ·simp at hc
  repeat' first
   | (refine Tot.bind (a19 _ _ hl) fun _ _=> ?_)
   | (refine Tot.bind (a0r (by omega) (by omega)) fun _ _=> ?_)
   | (refine Tot.bind (c07 (by simp;omega)) fun _ h=> ?_;subst h)
  exact Tot.some (by simp;omega)
theorem d74 (a:Int):Tot (a7i a) fun _=>True:=by
 unfold a7i
 have h: ∀k:Int,0<k -> k <= 9000 -> Tot (Option.bind (b55 a 4) fun v=>Option.bind (b6 v k) fun w=>some (i64 (1+w))) fun _=>True:=fun k h0 h1=>Tot.bind (e02 (by decide)) fun _ _=>Tot.bind (a0r h0 (by omega)) fun _ _=>Tot.some trivial
 refine Tot.bind (a0r (by omega) (by omega)) fun m _=>Tot.ite (fun _=>h _ (by omega) (by omega)) fun _=>Tot.ite (fun _=>h _ (by omega) (by omega)) fun _=>Tot.ite (fun _=>h _ (by omega) (by omega)) fun _=>h _ (by omega) (by omega)
theorem e0k (k:Int):Tot (a5y k) fun s=>s.size <= 10:=by
 unfold a5y
 rw [b3n,Option.bind_some]
 refine Tot.ite (fun _=>Tot.some (by decide)) fun h=> ?_
 simp at h
 have hs: ∀x∈[a1v,a9n,a5x,a5x,b9e,a7z,b5n,a7z,a7z,a7z,b8z,b8s,b8s,b8s,c57],x.size <= 10:=by decide
 exact Tot.bind (b04 (by omega) (by simp;omega)) fun _ _=>Tot.bind (b04 (by omega) (by simp;omega)) fun x hx=>Tot.some (hs x hx)
theorem f1i (a:pensionhand_Fact):Tot (a9c a) fun _=>True:=by
 have j: ∀q,Tot (a34 q) fun _=>True:=by
  intro q
  unfold a34
  refine Tot.bind (e0k _) fun s hs=> ?_
  refine Tot.loop (σ:=pensionhand_Fact×api_Fact×api_Fact×Int) (I:=fun v=>0 <= v.2.2.2) (μ:=fun v=>((s.size:Int)-v.2.2.2).toNat) (Int.le_refl _) (by show ((s.size:Int)-0).toNat<_;omega) ?_
  intro r v g1 ih
  unfold b4m
  refine Tot.ite (fun hc=> ?_) fun _=>Tot.some trivial
  simp at hc
  have nx: ∀(x:pensionhand_Fact) (y z:api_Fact),Tot (r (x,y,z,i64 (v.2.2.2+1))) fun _=>True:=fun x y z=>by
   rw [b69 g1 (by omega)]
   exact ih _ (by show 0 <= v.2.2.2+1;omega) (by show ((s.size:Int)-(v.2.2.2+1)).toNat<((s.size:Int)-v.2.2.2).toNat;omega)
  refine Tot.bind (f26 g1 hc) fun b _=> ?_
  simp only [a8r,Option.bind_some]
  repeat' first
   | exact nx _ _ _
   | (refine Tot.ite (fun _=> ?_) fun _=> ?_)
   | (refine Tot.bind (a0r (by omega) (by omega)) fun _ _=> ?_)
   | (refine Tot.bind (f1p (by decide)) fun _ _=> ?_)
 unfold a9c
 repeat' first
  | exact Tot.join (j _)
  | (refine Tot.ite (fun _=> ?_) fun _=> ?_)
  | (refine Tot.bind (a0r (by omega) (by omega)) fun _ _=> ?_)
  | (refine Tot.bind (d74 _) fun _ _=> ?_)
theorem e47 (l:List pensionhand_Fact):Tot (a8f l) fun r=>r.length <= 12:=by
 unfold a8f
 refine Tot.loop (I:=fun v:List api_Fact×Int=>0 <= v.2 /\ v.2 <= 12 /\ (v.1.length:Int)=v.2) (μ:=fun v=>(12-v.2).toNat) ⟨Int.le_refl _,by show (0:Int) <= 12;omega,rfl⟩ (by show (12-0:Int).toNat<_;omega) ?_
 intro r v hI ih
 obtain ⟨g1,g2,g3⟩:=hI
 unfold b3b
 rw [a8r,Option.bind_some]
 refine Tot.ite (fun hc=> ?_) fun _=>Tot.some (by omega)
 simp at hc
 refine Tot.bind (b04 g1 (by omega)) fun x _=>Tot.bind (f1i x) fun f _=>Tot.bind (c07 (by simp;omega)) fun a ha=> ?_
 subst ha
 rw [b69 g1 (by omega)]
 exact ih _ ⟨by show 0 <= v.2+1;omega,by show v.2+1 <= 12;omega,by simp;omega⟩ (by show (12-(v.2+1)).toNat<(12-v.2).toNat;omega)
end Go.PL
namespace Go.PL
open Go Go.SX
def d2g (k:Int):Prop:= ∃(s:ByteArray) (bS bT bH bC bA bR:Bool),b0u k=some s /\ (s.toList==a1v.toList)=false /\ a13 g1z s=some bS /\ a13 g33 s=some bT /\ a13 g0s s=some bH /\ a13 g2r s=some bC /\ a13 g3c s=some bA /\ a13 g11 s=some bR
theorem f9i:d2g 1:=⟨a9n,true,true,true,true,true,false,by kernel_rfl,by kernel_rfl,by kernel_rfl,by kernel_rfl,by kernel_rfl,by kernel_rfl,by kernel_rfl,by kernel_rfl⟩
theorem f6t:d2g 2:=⟨a5x,true,false,true,true,true,false,by kernel_rfl,by kernel_rfl,by kernel_rfl,by kernel_rfl,by kernel_rfl,by kernel_rfl,by kernel_rfl,by kernel_rfl⟩
theorem f8u:d2g 4:=⟨b9e,true,true,false,false,false,false,by kernel_rfl,by kernel_rfl,by kernel_rfl,by kernel_rfl,by kernel_rfl,by kernel_rfl,by kernel_rfl,by kernel_rfl⟩
theorem f6k:d2g 5:=⟨a7z,true,false,false,false,false,false,by kernel_rfl,by kernel_rfl,by kernel_rfl,by kernel_rfl,by kernel_rfl,by kernel_rfl,by kernel_rfl,by kernel_rfl⟩
theorem f6u:d2g 6:=⟨b5n,true,false,false,true,true,false,by kernel_rfl,by kernel_rfl,by kernel_rfl,by kernel_rfl,by kernel_rfl,by kernel_rfl,by kernel_rfl,by kernel_rfl⟩
theorem e9c:d2g 10:=⟨b8z,true,false,false,false,false,true,by kernel_rfl,by kernel_rfl,by kernel_rfl,by kernel_rfl,by kernel_rfl,by kernel_rfl,by kernel_rfl,by kernel_rfl⟩
theorem f0z:d2g 11:=⟨b8s,false,false,false,false,false,false,by kernel_rfl,by kernel_rfl,by kernel_rfl,by kernel_rfl,by kernel_rfl,by kernel_rfl,by kernel_rfl,by kernel_rfl⟩
theorem f15:d2g 14:=⟨c57,false,false,false,false,false,true,by kernel_rfl,by kernel_rfl,by kernel_rfl,by kernel_rfl,by kernel_rfl,by kernel_rfl,by kernel_rfl,by kernel_rfl⟩
theorem f02 {k:Int} (h0:1 <= k) (h1:k <= 14):d2g k:=by
 have:k=1 \/ k=2 \/ k=3 \/ k=4 \/ k=5 \/ k=6 \/ k=7 \/ k=8 \/ k=9 \/ k=10 \/ k=11 \/ k=12 \/ k=13 \/ k=14:=by omega
 rcases this with rfl | rfl | rfl | rfl | rfl | rfl | rfl | rfl | rfl | rfl | rfl | rfl | rfl | rfl
 all_goals first | exact f9i | exact f6t | exact usesp_3 | exact f8u | exact f6k | exact f6u | exact usesp_7 | exact usesp_8 | exact usesp_9 | exact e9c | exact f0z | exact usesp_12 | exact usesp_13 | exact f15
theorem e3b {k:Int} (h:k<1 \/ 15 <= k):b0u k=some a1v:=by
 have e: ∀j:Int,1 <= j -> j <= 14 -> (k==j)=false:=by intro j _ _;simp;omega
 unfold b0u b9c b2f b5y joinC
 simp [e 1,e 2,e 3,e 4,e 5,e 6,e 7,e 8,e 9,e 10,e 11,e 12,e 13,e 14]
theorem d02 {s c:ByteArray} {x lo hi:Int} {b:Bool} (h:a13 c s=some b): ∃v,(Option.bind (a13 c s) fun z=>a89 z x lo hi)=some v:=by
 unfold a89 a7s
 rw [h]
 simp only [a8r,b3n,Option.bind_some]
 exact ⟨_,rfl⟩
theorem d6k {α β γ:Type} (a:Option α) (f:α -> Option β) (g:β -> Option γ):(Option.bind a fun x=>Option.bind (f x) g)=Option.bind (Option.bind a f) g:=by cases a<;>rfl
set_option maxHeartbeats 4000000 in
theorem e4p (d:api_Fact): ∃b,a5t d=some b /\ (b=true -> (1 <= d.Kind /\ d.Kind <= 14) /\ (0 <= d.Issuer /\ d.Issuer <= 5) /\ (1 <= d.Number /\ d.Number <= 999) /\ 1 <= d.Version /\ d.Version <= 99 /\ 1 <= d.Person /\ d.Person <= 99):=by
 by_cases hk:1 <= d.Kind /\ d.Kind <= 14
 ·obtain ⟨s,bS,bT,bH,bC,bA,bR,h1,h3,hS,hT,hH,hC,hA,hR⟩:=f02 hk.1 hk.2
  obtain ⟨vS,fS⟩:=d02 (x:=d.State) (lo:=0) (hi:=5) hS
  obtain ⟨vT,fT⟩:=d02 (x:=d.Seat) (lo:=0) (hi:=5) hT
  obtain ⟨vH,fH⟩:=d02 (x:=d.Share) (lo:=1) (hi:=100) hH
  obtain ⟨vC,fC⟩:=d02 (x:=d.Currency) (lo:=1) (hi:=999) hC
  obtain ⟨vA,fA⟩:=d02 (x:=d.Amount) (lo:=0) (hi:=1000000000) hA
  obtain ⟨vR,fR⟩:=d02 (x:=d.Ref) (lo:=1) (hi:=99) hR
  unfold a5t
  simp only [d6k,fS,fT,fH,fC,fA,fR,h1,Option.bind_some,h3,Bool.false_eq_true,if_false]
  unfold a7s b6a b86 b7h joinC
  simp only [Option.bind_some,b3n,a8r]
  split
  ·exact ⟨false,rfl,fun h=>by cases h⟩
  ·rename_i hI
   have hr:(0 <= d.Issuer /\ d.Issuer <= 5) /\ (1 <= d.Number /\ d.Number <= 999) /\ 1 <= d.Version /\ d.Version <= 99 /\ 1 <= d.Person /\ d.Person <= 99:=by simp at hI;omega
   repeat' first
    | exact ⟨_,rfl,fun _=>⟨hk,hr⟩⟩
    | split
 ·have h1:=e3b (k:=d.Kind) (by omega)
  refine ⟨false,?_,fun h=>by cases h⟩
  unfold a5t
  simp [h1]
def vld (f:api_Fact):Bool:=(a5t f).getD false
theorem c0d (f:api_Fact):a5t f=some (vld f):=by
 obtain ⟨b,h,_⟩:=e4p f
 unfold vld;rw [h];rfl
theorem f9d {d:api_Fact} (h:vld d=true):(1 <= d.Kind /\ d.Kind <= 14) /\ (0 <= d.Issuer /\ d.Issuer <= 5) /\ (1 <= d.Number /\ d.Number <= 999) /\ 1 <= d.Version /\ d.Version <= 99 /\ 1 <= d.Person /\ d.Person <= 99:=by
 obtain ⟨b,e,h2⟩:=e4p d
 unfold vld at h
 rw [e] at h
 exact h2 h
theorem e8m {d:api_Fact} (h:vld d=true):1 <= d.Kind /\ d.Kind <= 14:=(f9d h).1
end Go.PL
namespace Go.PL
open Go
theorem b7f {α β:Type} (f:α -> Option β) (a:α):Go.SX.joinC f a=f a:=rfl
theorem f2o {i n:Nat} (h:i<n):(decide ((i:Int)<(n:Int)))=true:=by simp;omega
theorem e66 (n:Nat): ¬(decide ((n:Int)<(n:Int)))=true:=by simp
theorem d7o {α:Type} {f:(List α×Int -> Option (List α)) -> List α×Int -> Option (List α)} {k:Nat} (l:List α) (p:α -> Bool) (hl:l.length <= 2^30) (hk:k <= 1000)
  (hstep: ∀(rec:List α×Int -> Option (List α)) (s:List α) (i:Nat) (y:α),l[i]? =some y -> f rec (s,(i:Int))=if p y=true then Option.bind (a9h k s [y]) (fun a=>rec (a,i64 ((i:Int)+1))) else rec (s,i64 ((i:Int)+1)))
  (hfin: ∀(rec:List α×Int -> Option (List α)) (s:List α),f rec (s,(l.length:Int))=some s):d8 FU f ([],0)=some (l.filter p):=by
 refine b9s (f:=f) l (fun s i=>(s,i)) (fun s i=>s=(l.take i).filter p) (fun o=>o=some (l.filter p)) (by omega) ?_ ?_ [] (by simp)
 ·rintro rec s i y hi hy rfl
  right
  have hlen:((l.take i).filter p).length <= i:=by
   have:=List.length_filter_le p (l.take i);rw [List.length_take] at this;omega
  rw [hstep _ _ _ _ hy,c42 (by omega),d22 hy,List.filter_append]
  by_cases hc:p y=true
  ·rw [if_pos hc,b1t (by
    simp only [List.length_cons,List.length_nil]
    calc (((l.take i).filter p).length+1)*k <= (2^30+1)*1000:=Nat.mul_le_mul (by omega) hk
     _ <= _:=by omega),Option.bind_some]
   exact ⟨_,rfl,by simp [hc]⟩
  ·rw [if_neg hc]
   rw [Bool.not_eq_true] at hc
   exact ⟨_,rfl,by simp [hc]⟩
 ·rintro rec s rfl
  rw [hfin,List.take_length]
end Go.PL
namespace Go.PL
open Go Go.SX
def ofP (l:List api_Fact) (p:Int):List api_Fact:=l.filter fun f=>f.Person==p
theorem g3o (l:List api_Fact) (p:Int) (hl:l.length <= 2^30):b4c l p=some (ofP l p):=by
 unfold b4c a4m ofP
 rw [d7o (k:=112) l (fun f=>f.Person==p) hl (by omega) (fun rec s i y hy=> ?_) fun rec s=> ?_,Option.bind_some]
 ·have hi:=(List.getElem?_eq_some_iff.1 hy).1
  unfold a3h c25
  dsimp only
  rw [if_pos (f2o hi)]
  simp only [c76 hy,Option.bind_some]
 ·unfold a3h
  dsimp only
  rw [if_neg (e66 _)]
end Go.PL
namespace Go.PL
open Go Go.SX
def b78 (n:Int):Nat -> List Int
 | 0=>[]
 | k+1=>IntKind.u8.wrap (g3d .i64 n (8*k))::b78 n k
theorem b5f (n:Int): ∀k,(b78 n k).length=k
 | 0=>rfl
 | k+1=>by simp [b78,b5f n k]
theorem e7u (b:List Int) (k:Nat) (xs:List Int) (hk:k <= 8) (hx:xs.length <= 1000) (hb:b.length <= 100000):l9 b (k:Int) xs=some (b++xs.flatMap fun n=>b78 n k):=by
 unfold l9
 have hfl: ∀ys:List Int,(ys.flatMap fun n=>b78 n k).length=ys.length*k:=by
  intro ys
  induction ys with
  | nil=>simp
  | cons y ys ih=>rw [List.flatMap_cons,List.length_append,ih,b5f,List.length_cons,Nat.succ_mul];omega
 refine b9s (f:=a5g xs (k:Int)) xs (fun s i=>(s,i)) (fun s i=>s=b++(xs.take i).flatMap fun n=>b78 n k) (fun o=>o=some (b++xs.flatMap fun n=>b78 n k)) (by omega) ?_ ?_ b (by simp)
 ·rintro rec s i y hi hy rfl
  right
  refine ⟨_,?_,rfl⟩
  unfold a5g
  dsimp only
  rw [if_pos (by simp;omega),c76 hy,Option.bind_some]
  have hlen:(b++(xs.take i).flatMap fun n=>b78 n k).length <= 108000:=by
   rw [List.length_append,hfl,List.length_take]
   have:min i xs.length*k <= 1000*8:=Nat.mul_le_mul (by omega) hk
   omega
  have htk:(xs.take (i+1)).flatMap (fun n=>b78 n k)=((xs.take i).flatMap fun n=>b78 n k)++b78 y k:=by rw [d22 hy,List.flatMap_append];simp
  rw [htk,<- List.append_assoc]
  generalize (b++(xs.take i).flatMap fun n=>b78 n k)=c at hlen⊢
  refine c47 (f:=a7q y rec (c,(i:Int))) (fun st=> ∃(q:List Int) (j:Nat),st=(q,(j:Int)-1) /\ j <= k /\ q++b78 y j=c++b78 y k) (fun st=>(st.2+1).toNat) (fun o=>o=rec (c++b78 y k,((i+1:Nat):Int)))
   (s:=(c,i64 ((k:Int)-1))) ⟨c,k,by rw [j6 (by omega) (by omega)],Nat.le_refl _,rfl⟩ (by rw [j6 (by omega) (by omega)];dsimp only;omega) ?_
  rintro st rec2 ⟨q,j,rfl,hj,hq⟩
  unfold a7q
  dsimp only
  cases j with
  | zero=>
    left
    rw [if_neg (by simp),c42 (by omega)]
    congr 2
    simpa [b78] using hq
  | succ j=>
    right
    have e1:((j+1:Nat):Int)-1=(j:Int):=by omega
    have hql:q.length <= 108008:=by
     have:=congrArg List.length hq
     rw [List.length_append,List.length_append,b5f,b5f] at this;omega
    rw [e1,if_pos (by simp),j6 (n:=8*(j:Int)) (by omega) (by omega)]
    unfold e0t
    rw [if_neg (by omega),Option.bind_some,b1t (by simp;omega),Option.bind_some,j6 (n:=(j:Int)-1) (by omega) (by omega)]
    refine ⟨_,rfl,⟨_,j,rfl,by omega,?_⟩,by dsimp only;omega⟩
    rw [<- hq,List.append_assoc];rfl
 ·rintro rec s rfl
  unfold a5g
  dsimp only
  rw [if_neg (by simp),List.take_length]
def e2k (d:api_Fact) (c:Int):List Int:=
 if c=83 then b78 d.State 1 else if c=80 then b78 d.Span.From 3++b78 d.Span.To 3 else if c=84 then b78 d.Seat 1 else if c=72 then b78 d.Share 1 else if c=67 then b78 d.Currency 2 else if c=65 then b78 d.Amount 4 else if c=82 then b78 d.Ref 1 else []
theorem e8l (d:api_Fact) (c:Int):(e2k d c).length <= 6:=by
 unfold e2k
 repeat' split
 all_goals simp [b5f]
def c8t (s:ByteArray):Prop:=s.size <= 10 /\ ∀i:Nat,i<s.size -> b0v s (i:Int)=some ((s.get! i).toNat:Int) /\ (s.get! i).toNat<128
def d70 (s:ByteArray) (i:Nat):List Int:=(List.range i).map fun j=>((s.get! j).toNat:Int)
theorem e6z (s:ByteArray) (i:Nat):d70 s (i+1)=d70 s i++[((s.get! i).toNat:Int)]:=by unfold d70;rw [List.range_succ,List.map_append];rfl
theorem c41 (d:api_Fact): ∀l:List Int,(l.flatMap (e2k d)).length <= 6*l.length
 | []=>by simp
 | c::l=>by
   have:=c41 d l
   have h:=e8l d c
   rw [List.flatMap_cons,List.length_append,List.length_cons];omega
theorem g3j (b:List Int) (k:Nat) (x:Int) (hk:k <= 8) (hb:b.length <= 100000):l9 b (k:Int) [x]=some (b++b78 x k):=by
 rw [e7u b k [x] hk (by simp) hb];simp
set_option maxHeartbeats 1000000 in
theorem e39 (d:api_Fact) (s:ByteArray) (hs:c8t s) (b:List Int) (hb:b.length <= 1000):d8 FU b40 (d,b,(s,0))=some (b++(d70 s s.size).flatMap (e2k d)):=by
 have:=b5o (f:=b40) (fun st=> ∃i:Nat,st=(d,b++(d70 s i).flatMap (e2k d),(s,(i:Int))) /\ i <= s.size) (fun st=>s.size-st.2.2.2.toNat) (fun r=>r=b++(d70 s s.size).flatMap (e2k d))
  (s:=(d,b,(s,0))) ⟨0,by simp [d70],Nat.zero_le _⟩ (by dsimp only;have:=hs.1;omega) ?_
 ·obtain ⟨r,h1,h2⟩:=this;rw [h1,h2]
 ·rintro st rec ⟨i,rfl,hi⟩
  have hlen:(b++(d70 s i).flatMap (e2k d)).length <= 2000:=by
   have:=c41 d (d70 s i)
   have hl:(d70 s i).length=i:=by simp [d70]
   have:=hs.1
   rw [List.length_append];omega
  unfold b40
  dsimp only
  by_cases h:i<s.size
  ·right
   obtain ⟨_,h2⟩:=hs.2 i h
   have hn:c6q s (i:Int)=some (some ((s.get! i).toNat:Int)):=by unfold c6q;rw [if_pos (by omega),Int.toNat_natCast,if_pos h2]
   rw [hn]
   refine ⟨(d,b++(d70 s (i+1)).flatMap (e2k d),(s,((i+1:Nat):Int))),?_,⟨i+1,rfl,h⟩,by simp only [Int.toNat_natCast];omega⟩
   rw [e6z,List.flatMap_append,<- List.append_assoc]
   generalize b++(d70 s i).flatMap (e2k d)=q at hlen⊢
   generalize ((s.get! i).toNat:Int)=c
   simp only [List.flatMap_cons,List.flatMap_nil,List.append_nil]
   have a1: ∀x,l9 q 1 [x]=some (q++b78 x 1):=fun x=>g3j q 1 x (by omega) (by omega)
   have a2: ∀x,l9 q 2 [x]=some (q++b78 x 2):=fun x=>g3j q 2 x (by omega) (by omega)
   have a4: ∀x,l9 q 4 [x]=some (q++b78 x 4):=fun x=>g3j q 4 x (by omega) (by omega)
   have a3: ∀x y,l9 q 3 [x,y]=some (q++(b78 x 3++b78 y 3)):=fun x y=>by
    have:=e7u q 3 [x,y] (by omega) (by simp) (by omega)
    simpa using this
   have ei:((i:Int)+1)=((i+1:Nat):Int):=by simp
   unfold e2k
   simp only [optC,a1,a2,a3,a4,Option.bind_some,beq_iff_eq,ei]
   repeat' split
   all_goals first | rfl | simp
  ·left
   have:i=s.size:=by omega
   subst this
   have hn:c6q s (s.size:Int)=none:=by unfold c6q;rw [if_neg (by omega)]
   rw [hn]
   exact ⟨_,rfl,rfl⟩
theorem e14:c8t a9n:=⟨by decide,by decide⟩
theorem d39:c8t a5x:=⟨by decide,by decide⟩
theorem f8n:c8t b9e:=⟨by decide,by decide⟩
theorem d8y:c8t a7z:=⟨by decide,by decide⟩
theorem f1h:c8t b5n:=⟨by decide,by decide⟩
theorem f9r:c8t b8z:=⟨by decide,by decide⟩
theorem f6j:c8t b8s:=⟨by decide,by decide⟩
theorem g3h:c8t c57:=⟨by decide,by decide⟩
theorem f0p {k:Int} (h0:1 <= k) (h1:k <= 14): ∃s,b0u k=some s /\ a5y k=some s /\ c8t s:=by
 have:k=1 \/ k=2 \/ k=3 \/ k=4 \/ k=5 \/ k=6 \/ k=7 \/ k=8 \/ k=9 \/ k=10 \/ k=11 \/ k=12 \/ k=13 \/ k=14:=by omega
 rcases this with rfl | rfl | rfl | rfl | rfl | rfl | rfl | rfl | rfl | rfl | rfl | rfl | rfl | rfl
 exact ⟨a9n,by kernel_rfl,by kernel_rfl,e14⟩
 exact ⟨a5x,by kernel_rfl,by kernel_rfl,d39⟩
 exact ⟨a5x,by kernel_rfl,by kernel_rfl,d39⟩
 exact ⟨b9e,by kernel_rfl,by kernel_rfl,f8n⟩
 exact ⟨a7z,by kernel_rfl,by kernel_rfl,d8y⟩
 exact ⟨b5n,by kernel_rfl,by kernel_rfl,f1h⟩
 exact ⟨a7z,by kernel_rfl,by kernel_rfl,d8y⟩
 exact ⟨a7z,by kernel_rfl,by kernel_rfl,d8y⟩
 exact ⟨a7z,by kernel_rfl,by kernel_rfl,d8y⟩
 exact ⟨b8z,by kernel_rfl,by kernel_rfl,f9r⟩
 exact ⟨b8s,by kernel_rfl,by kernel_rfl,f6j⟩
 exact ⟨b8s,by kernel_rfl,by kernel_rfl,f6j⟩
 exact ⟨b8s,by kernel_rfl,by kernel_rfl,f6j⟩
 exact ⟨c57,by kernel_rfl,by kernel_rfl,g3h⟩
def g2b (d:api_Fact):List Int:=[if d.Withdrawn=true then (1:Int) else 0,d.Person,d.Kind].flatMap (fun n=>b78 n 1)++((d70 ((b0u d.Kind).getD a1v) ((b0u d.Kind).getD a1v).size).flatMap (e2k d))
def d9a (d:api_Fact):List Int:=b78 d.Issuer 1++(b78 d.Number 2++(b78 d.Version 1++g2b d))
theorem c96 (d:api_Fact) (h:vld d=true):b6y d=some (d9a d):=by
 obtain ⟨k0,k1⟩:=e8m h
 obtain ⟨s,e1,_,hs⟩:=f0p k0 k1
 have key: ∀x:Int,b41 (d,x)=some (b78 d.Issuer 1++(b78 d.Number 2++(b78 d.Version 1++([x,d.Person,d.Kind].flatMap (fun n=>b78 n 1)++(d70 s s.size).flatMap (e2k d))))):=by
  intro x
  unfold b41
  dsimp only
  have a1:=g3j [] 1 d.Issuer (by omega) (by simp)
  have a2:=g3j ([]++b78 d.Issuer 1) 2 d.Number (by omega) (by simp [b5f])
  have a3:=e7u ([]++b78 d.Issuer 1++b78 d.Number 2) 1 [d.Version,x,d.Person,d.Kind] (by omega) (by simp) (by simp [b5f])
  have c1:((1:Nat):Int)=1:=rfl
  have c2:((2:Nat):Int)=2:=rfl
  rw [c1] at a1 a3;rw [c2] at a2
  rw [a1,Option.bind_some,a2,Option.bind_some,a3,Option.bind_some,e1,Option.bind_some,e39 d s hs _ (by simp [b5f])]
  simp
 unfold b6y d9a g2b
 rw [c0d,h,Option.bind_some,if_neg (by simp),e1]
 cases hw:d.Withdrawn
 ·rw [if_neg (by simp)];rw [b7f,key];simp
 ·rw [if_pos rfl];rw [b7f,key];simp
end Go.PL
namespace Go.PL
open Go Go.SX
theorem d95: ∀(x y:List UInt8),(Lib.compareBytes x y<0)↔Op.bytesLess x y=true
 | [],[]=>by simp [Lib.compareBytes,Op.bytesLess]
 | [],_::_=>by simp [Lib.compareBytes,Op.bytesLess]
 | _::_,[]=>by simp [Lib.compareBytes,Op.bytesLess]
 | a::x,b::y=>by
   have ih:=d95 x y
   unfold Lib.compareBytes Op.bytesLess
   by_cases h1:a<b
   ·simp [h1]
   ·by_cases h2:b<a
    ·have h3:(a==b)=false:=by
      rw [beq_eq_false_iff_ne];rintro rfl;exact h1 h2
     simp [h1,h2,h3]
    ·have h3:a=b:=by
      have e1: ¬a.toNat<b.toNat:=h1
      have e2: ¬b.toNat<a.toNat:=h2
      exact UInt8.toNat_inj.1 (by omega)
     subst h3
     simp [h1,ih]
def f0t (a b:api_Fact):Bool:=Op.bytesLess (Lib.bytesOf (d9a a)) (Lib.bytesOf (d9a b))
theorem e4g {a b:api_Fact} (ha:vld a=true) (hb:vld b=true):c3a a b=some (f0t a b):=by
 unfold c3a
 rw [c0d,c0d,ha,hb]
 simp only [Option.bind_some,Bool.not_true,Bool.false_eq_true,if_false]
 rw [c96 a ha,c96 b hb]
 simp only [Option.bind_some]
 unfold b7q b4j g1h f0t
 simp only [Option.bind_some,List.map_id']
 congr 1
 rw [Bool.eq_iff_iff,decide_eq_true_eq]
 exact d95 _ _
end Go.PL
