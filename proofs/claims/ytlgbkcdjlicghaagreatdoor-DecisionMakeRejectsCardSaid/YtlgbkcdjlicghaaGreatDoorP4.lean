/- Texts of the proof, joined. -/
import Derived.Test.YtlgbkcdjlicghaaGreatDoorP3
import Derived.RangeFuncNested
import Derived.RangeFuncBox
import Derived.Shelf.Strconv.Itoa3
import Derived.Lib.LaidTab
import Derived.Laws.BitsLemmas
import Derived.Laws.Bits64
import Derived.KernelRfl
set_option linter.unusedVariables false
set_option linter.unusedSimpArgs false
set_option maxRecDepth 100000
namespace Go.PL
open Go Go.RowKit
structure StillR (B : Nat) (I : World -> Prop) : Prop where
  al : ∀ W o, I W -> I (W.alloc o)
  pu : ∀ W l o o', B <= l -> W.heap[l]? = some o -> o.isCells = false -> I W -> I (W.putObj l o')
def f8g (B : Nat) (Kp : World -> World -> Prop) (I' : World -> Prop) (Ix : Code -> World -> Prop) (W : World) : Exit -> Act -> World -> Prop
  | .normal, _, W' => KeepsFrom B W W' /\ Kp W W' /\ I' W'
  | .ret, _, W' => KeepsFrom B W W' /\ Ix .ret W'
  | .exit id, _, W' => KeepsFrom B W W' /\ Ix (.exit id) W'
  | .goto t, _, W' => KeepsFrom B W W' /\ Ix (.goto t) W'
  | _, _, _ => False
theorem e7u {W : World} {l : Nat} {r : Loop} (h : W.heap[l]? = some (.loop r)) : l < W.heap.size := (Array.getElem?_eq_some_iff.1 h).1
theorem f1z {n : Nat} {P : Program} {g : Operand} {ps : Array Tmp} {assign body : Code} {Q : Exit -> Act -> World -> Prop} {a : Act} {w : World} {F : Fence}
    (hro : F.round = none) (hn : 1 <= n) {gf : Nat} {lb : Array Value} (hg : a.eval g = .func (.func gf) #[] lb) (hF : F.fn gf) (eg : ∀ args w, (callFunc gf args).run P w = .ok (.enter gf args) w)
    (enc : Nat -> Array Value) (len : Nat) (Kp : World -> World -> Prop)
    (hit : ∀ (l : Nat) (J Jx : Nat -> World -> Prop) (W : World), Below w.heap.size w W ->
      (∀ k W1, J k W1 -> k < len -> YieldAt F (n - 1 - 1) P l (enc k) W1 fun e W' => (e = .returned (.bool true) /\ J (k + 1) W' /\ Kp W1 W') \/ (e = .returned (.bool false) /\ Jx (k + 1) W')) ->
      J 0 W -> CallsIn F (n - 1) P gf (#[.func (.yield l) #[] #[]] ++ lb) W fun e W' => (∃ v, e = .returned v) /\ (J len W' \/ ∃ k, k <= len /\ Jx k W'))
    (hKt : ∀ A B C, Kp A B -> Kp B C -> Kp A C) (hKp : ∀ (W : World) (l : Nat) (o o' : Obj), w.heap.size <= l -> W.heap[l]? = some o -> o.isCells = false -> o.isWalk = false -> Kp W (W.putObj l o')) (hps : ∀ k, (enc k).size = ps.size)
    (I : Nat -> World -> Prop) (Ix : Nat -> Code -> World -> Prop) (Ax : Nat -> Act -> World -> Prop)
    (cI : ∀ k, StillR w.heap.size (I k)) (cX : ∀ k c, StillR w.heap.size (Ix k c)) (cA : ∀ k a', StillR w.heap.size (Ax k a')) (h0 : I 0 w)
    (hass : ∀ (l k : Nat) (W : World) (K : Act -> World -> Prop), I k W -> (∀ a' W', KeepsFrom w.heap.size W W' -> Kp W W' -> I k W' -> Ax k a' W' -> K a' W') ->
      assign.wpIn (F.inRound l) (n - 1 - 1) P (Exit.then K (fun _ _ _ => False)) { tmps := (ps.zip (enc k)).foldl (fun t (p, v) => t.setIfInBounds p v) a.tmps, defers := [] } W)
    (hbody : ∀ (l k : Nat) (a' : Act) (W : World), I k W -> Ax k a' W -> k < len -> body.wpIn (F.inRound l) (n - 1 - 1) P (f8g w.heap.size Kp (I (k + 1)) (Ix (k + 1)) W) a' W)
    (hdone : ∀ (D : Nat) (W : World), w.heap.size <= D -> I len W -> W.heap[D]? = some (.deferred (some [])) -> Q .normal { a with defers := { target := .collected D, args := #[] } :: a.defers } W)
    (hstop : ∀ (D k : Nat) (c : Code) (W : World), w.heap.size <= D -> k <= len -> Ix k c W -> W.heap[D]? = some (.deferred (some [])) -> c.wpIn F n P Q { a with defers := { target := .collected D, args := #[] } :: a.defers } W) :
    (Code.rangeFunc g ps assign body).wpIn F n P Q a w := by
  have b1 : Below w.heap.size w (w.alloc (.deferred (some []))) := (Below.refl _ w).alloc (Nat.le_refl _) _
  refine wpIn_rangeFunc fun fn hfn => ?_
  let R : LoopState -> Option Code -> Loop := fun s j => { state := s, pending := j, fn, tmps := a.tmps, params := ps, assign, body, defers := w.heap.size }
  let V := (w.alloc (.deferred (some []))).alloc (.loop (R .ready none))
  have vD : V.heap[w.heap.size]? = some (.deferred (some [])) := (Below.heap_alloc _ _ _ (by simp)).trans (World.alloc_heap_new w _)
  have vL : V.heap[w.heap.size + 1]? = some (.loop (R .ready none)) := by
    have := World.alloc_heap_new (w.alloc (.deferred (some []))) (.loop (R .ready none)); rwa [World.size_alloc] at this
  have vI : I 0 V := (cI 0).al _ _ ((cI 0).al _ _ h0)
  have vB : Below w.heap.size w V := b1.alloc (by simp) _
  have henter : (Instr.enterLoop fn a.tmps ps assign body F.round).run P w = .ok (w.heap.size + 1, [{ target := .collected w.heap.size, args := #[] }]) V := by rw [hro]; exact run_enterLoop_outer _ _ _ _ _
  have hres : (resolve a.eval (rangeCall g (w.heap.size + 1)) 0).run P V = .ok { target := .fn (.func gf) lb, args := #[.func (.yield (w.heap.size + 1)) #[] #[]] } V := by
    simp only [resolve, hg]
    simp [go_sem]
  refine ⟨_, _, V, _, V, gf, #[.func (.yield (w.heap.size + 1)) #[] #[]] ++ lb, V, henter, hres, ?_, ?_, fun _ => hn, ?_⟩
  . intro f' hf'; simp [Target.leads] at hf'; subst hf'; exact hF
  . simp [invoke, go_sem, eg]
  let Bk (s : LoopState) (j : Option Code) (W : World) : Prop := W.heap[w.heap.size + 1]? = some (.loop (R s j)) /\ W.heap[w.heap.size]? = some (.deferred (some []))
  have kd : ∀ {s j W} (s' : LoopState) (j' : Option Code), Bk s j W -> Bk s' j' (W.putObj (w.heap.size + 1) (.loop (R s' j'))) := fun _ _ h =>
    ⟨World.putObj_heap_same (e7u h.1), (World.putObj_heap_other (by omega)).trans h.2⟩
  have kf : ∀ {s j W W'}, KeepsFrom w.heap.size W W' -> Bk s j W -> Bk s j W' := fun hk h => ⟨hk.same _ _ (by omega) h.1 rfl, hk.same _ _ (Nat.le_refl _) h.2 rfl⟩
  refine (hit (w.heap.size + 1) (fun k W => I k W /\ Bk .ready none W) (fun k W => ∃ c, Ix k c W /\ Bk .done (some c) W) V vB ?_ ⟨vI, vL, vD⟩).mono ?_
  . intro k W ⟨hi, hb⟩ hk
    refine ⟨fn, _, assign, body, run_yield (P := P) (args := enc k) hb.1 (hps k), roundIn_of_wpIn hfn (hass _ k W _ hi fun a' W' hkf hkp hi' ha' => ?_)⟩
    have hb' := kf hkf hb
    refine ⟨_, run_beginRound hb'.1 rfl, ?_⟩
    have hb2 : Bk .busy none (W'.putObj (w.heap.size + 1) (.loop (R .busy none))) := kd _ _ hb'
    refine wpIn_mono (hbody _ k a' _ ((cI k).pu _ _ _ _ (by omega) hb'.1 rfl hi') ((cA k a').pu _ _ _ _ (by omega) hb'.1 rfl ha') hk) fun e a3 W3 hp => ?_
    have fin : ∀ (j : Option Code), KeepsFrom w.heap.size (W'.putObj (w.heap.size + 1) (.loop (R .busy none))) W3 ->
        (Instr.endRound (w.heap.size + 1) j).run P W3 = .ok (.bool j.isNone) (W3.putObj (w.heap.size + 1) (.loop (R (if j.isNone then .ready else .done) j))) /\ Bk .busy none W3 := fun j hk3 => ⟨run_endRound (P := P) j (kf hk3 hb2).1, kf hk3 hb2⟩
    have out : ∀ (c : Code), KeepsFrom w.heap.size (W'.putObj (w.heap.size + 1) (.loop (R .busy none))) W3 -> Ix (k + 1) c W3 ->
        ∃ v W4, (Instr.endRound (w.heap.size + 1) (some c)).run P W3 = .ok v W4 /\ ((Ending.returned v = .returned (.bool true) /\ (I (k + 1) W4 /\ Bk .ready none W4) /\ Kp W W4) \/ (Ending.returned v = .returned (.bool false) /\ ∃ c, Ix (k + 1) c W4 /\ Bk .done (some c) W4)) := fun c hk3 hx => by
      obtain ⟨hr, hb3⟩ := fin (some c) hk3
      exact ⟨_, _, hr, .inr ⟨rfl, c, (cX _ c).pu _ _ _ _ (by omega) hb3.1 rfl hx, kd _ _ hb3⟩⟩
    cases e with
    | normal =>
      obtain ⟨hk3, hkp3, hi3⟩ := hp
      obtain ⟨hr, hb3⟩ := fin none hk3
      exact ⟨_, _, hr, .inl ⟨rfl, ⟨(cI _).pu _ _ _ _ (by omega) hb3.1 rfl hi3, kd _ _ hb3⟩, hKt _ _ _ hkp (hKt _ _ _ (hKp _ _ _ _ (by omega) hb'.1 rfl rfl) (hKt _ _ _ hkp3 (hKp _ _ _ _ (by omega) hb3.1 rfl rfl)))⟩⟩
    | ret => exact out .ret hp.1 hp.2
    | exit id => exact out (.exit id) hp.1 hp.2
    | goto t => exact out (.goto t) hp.1 hp.2
    | panic ch => exact hp.elim
    | outgrown => exact hp.elim
  . rintro e W2 ⟨⟨v, rfl⟩, ⟨hi, hb⟩ | ⟨k, hk, c, hi, hb⟩⟩
    . exact ⟨none, _, run_endLoop (P := P) hb.1 (by simp [R]), hdone _ _ (Nat.le_refl _) ((cI _).pu _ _ _ _ (by omega) hb.1 rfl hi) ((World.putObj_heap_other (by omega)).trans hb.2)⟩
    . exact ⟨some c, _, run_endLoop (P := P) hb.1 (by simp [R]), hstop _ k c _ (Nat.le_refl _) hk ((cX _ c).pu _ _ _ _ (by omega) hb.1 rfl hi) ((World.putObj_heap_other (by omega)).trans hb.2)⟩
theorem a71 {B Bx : Nat} {t : TypeId} {v : Value} : StillR B (fun W => Boxed W Bx t v) :=
  ⟨fun W o h => h.alloc o, fun W l o o' _ hl ho h => Own.putObj (I := fun (_ : Unit) W => Boxed W Bx t v) (boxed_own Bx t fun _ => v) (s := ()) o' h hl ho⟩
theorem c4l {B n₀ : Nat} {w0 : World} (h1 : n₀ <= w0.heap.size) (h2 : n₀ <= B) : StillR B (fun W => Below n₀ w0 W /\ w0.drawn <= W.drawn) :=
  ⟨fun W o h => ⟨h.1.alloc (Nat.le_trans h1 h.1.size) o, h.2⟩, fun W l o o' hB hl ho h => ⟨h.1.trans ⟨rfl, rfl, rfl, by simp, fun k hk => World.putObj_heap_other (by omega)⟩, h.2⟩⟩
theorem b9j {B : Nat} {p : Prop} : StillR B (fun _ => p) := ⟨fun _ _ h => h, fun _ _ _ _ _ _ _ h => h⟩
theorem StillR.and {B : Nat} {I J : World -> Prop} (h : StillR B I) (k : StillR B J) : StillR B (fun W => I W /\ J W) :=
  ⟨fun W o hh => ⟨h.al _ _ hh.1, k.al _ _ hh.2⟩, fun W l o o' hB hl ho hh => ⟨h.pu _ _ _ _ hB hl ho hh.1, k.pu _ _ _ _ hB hl ho hh.2⟩⟩
theorem StillR.ex {α : Type} {B : Nat} {I : α -> World -> Prop} (h : ∀ x, StillR B (I x)) : StillR B (fun W => ∃ x, I x W) :=
  ⟨fun W o ⟨x, hh⟩ => ⟨x, (h x).al _ _ hh⟩, fun W l o o' hB hl ho ⟨x, hh⟩ => ⟨x, (h x).pu _ _ _ _ hB hl ho hh⟩⟩
theorem Boxed.ex {w w1 : World} {B : Nat} {t : TypeId} {v : Value} (hE : Ext noG w w1) (h : Boxed w B t v) : Boxed w1 B t v := (hE.block B h.lt (fun h => h)).trans h
def d26 (B o : Nat) (v : Value) (W : World) : Prop := W.cell? ⟨B, o, none⟩ = some v /\ ∃ x : Obj, W.heap[B]? = some x /\ x.isCells = true
theorem d26.of {B : Nat} {W W' : World} (hb : W'.heap[B]? = W.heap[B]?) {o : Nat} {v : Value} (h : d26 B o v W) : d26 B o v W' :=
  ⟨by have := h.1; unfold World.cell? at this ⊢; rwa [hb], by rw [hb]; exact h.2⟩
theorem c21 {n B o : Nat} {v : Value} : StillR n (d26 B o v) :=
  ⟨fun W x h => h.of (by obtain ⟨_, y, hy, _⟩ := h; exact Below.heap_alloc _ _ _ (Array.getElem?_eq_some_iff.1 hy).1), fun W l x x' _ hl hx h => h.of (World.putObj_heap_other fun e => by
    obtain ⟨_, y, hy, hc⟩ := h
    rw [<- e, hy] at hl
    cases hl
    rw [hx] at hc; cases hc)⟩
theorem d5t {n m : Nat} : StillR n (fun W => m <= W.heap.size) := ⟨fun W o h => by simp; omega, fun W l o o' _ _ _ h => by simpa using h⟩
theorem c8o (W : World) (cs : Array Value) (t : TypeId) {o : Nat} {v : Value} (h : cs[o]? = some v) : d26 W.heap.size o v (W.alloc (.cells cs t)) :=
  ⟨by unfold World.cell?; rw [World.alloc_heap_new]; exact h, _, World.alloc_heap_new W _, rfl⟩
end Go.PL
namespace Go.PL
open Go
def a7f : Nat -> Nat -> List UInt8
  | 0, u => [UInt8.ofNat (48 + u)]
  | k + 1, u => if u < 10 then [UInt8.ofNat (48 + u)] else a7f k (u / 10) ++ [UInt8.ofNat (48 + u % 10)]
theorem e07 : ∀ (k u : Nat), u < 10 ^ (k + 1) -> a7f k u = Lib.decDigits u
  | 0, u, h => by rw [Lib.decDigits, dif_pos (by simpa using h)]; rfl
  | k + 1, u, h => by
    rw [Lib.decDigits]
    unfold a7f
    by_cases hu : u < 10
    . rw [if_pos hu, dif_pos hu]
    . rw [if_neg hu, dif_neg hu, e07 k (u / 10) (by rw [Nat.pow_succ] at h; omega)]
def strconv_Itoa (a0 : Int) : Option ByteArray := if 0 <= a0 /\ a0 <= 9223372036854775807 then some ⟨(a7f 20 a0.toNat).toArray⟩ else none
end Go.PL
namespace Go.SX
open Go Go.PL Go.Proofs Go.Shelf
theorem e2p {P : Program} {nm : String} {k : IntKind} {zs : List Int} {g : Nat} (hg : P.globalNamed nm = some g) {w w' : World} (h : Lib.TabIs P w nm k zs) (hb : w'.heap[g]? = w.heap[g]?) : Lib.TabIs P w' nm k zs := by
  unfold Lib.TabIs World.var? at *
  rw [hg] at *
  simpa [hb] using h
theorem f2r {P : Program} {nm : String} {k : IntKind} {zs : List Int} {g : Nat} (hg : P.globalNamed nm = some g) {w : World} (h : Lib.TabIs P w nm k zs) : g < w.heap.size := by
  unfold Lib.TabIs World.var? at h
  rw [hg] at h
  cases hh : w.heap[g]? with
  | none => simp [hh] at h
  | some o => exact (Array.getElem?_eq_some_iff.1 hh).1
theorem e23 (G : Nat -> Prop) (w : World) (k : Nat) (os : Array Obj) : Ext G w (Sort.grow (w.drewN k) os) :=
  ⟨rfl, rfl, rfl, by simp [Sort.grow, World.drewN], fun b hb _ => by simp [Sort.grow, World.drewN, Array.getElem?_append_left hb], by simp [Sort.grow, World.drewN]⟩
section
variable {P : Program} {U : Uni}
theorem e0y {ρ : Ren} (L : LaysM.n171 P ρ) (ht : ∀ w, U.tab w -> Lib.TabIs P w "internal/strconv.uint64pow10" .u64 Lib.pow10Tab) {a c : U.C} (fa : U.T a -> Int) (ha : ∀ x, (inj a x : U.AV) = .int .i64 (fa x)) (fc : ByteArray -> U.T c) (hc : ∀ s, (inj c (fc s) : U.AV) = .str s) :
    Spec P (ρ.f 171) (⟨⟨[.v a], [.v c]⟩, ByteArray, fun x => strconv_Itoa (fa x.1), fun b => ((fc b, ()), ())⟩ : Fent U) := by
  intro xs r hr Z G w us hl hR
  match us, hl with
  | [u1], _ =>
    have s0 : AVR _ (inj a xs.1) u1 := hR.slot 0
    rw [ha] at s0
    have s0 : u1 = .int .i64 (fa xs.1) := s0
    have hr : strconv_Itoa (fa xs.1) = some r := hr
    unfold strconv_Itoa at hr
    split at hr
    . rename_i hb
      have hr := (Option.some.inj hr).symm
      have e : Lib.itoa (fa xs.1) = a7f 20 (fa xs.1).toNat := by
        unfold Lib.itoa
        rw [if_neg (by omega), e07 20 _ (by omega)]
      have hC := Any.strconv_Itoa L (fa xs.1) (by omega) hb.2 w (ht w hR.tab.1)
      subst s0
      show Calls P (ρ.f 171) #[Value.int .i64 (fa xs.1)] w _
      refine hC.mono ?_
      rintro e' w' ⟨he, k, os, hw⟩
      subst hw
      refine ⟨_, he, ⟨Z, [_], [.int .i64 (fa xs.1)], rfl, fun _ h => h, fun _ h => .inl h, e23 _ _ _ _, rfl, fun _ _ _ _ => rfl, ⟨?_, trivial⟩, trivial, ?_, ?_⟩⟩
      . show a36 _ (inj c (fc r)) _
        rw [hc, hr, <- e]; rfl
      . intro v hv; cases hv
      . intro i j v v' b _ hv; cases hv
    . cases hr
end
end Go.SX
namespace Go.PL
open Go Go.SX
structure Span where
  From : Int
  To : Int
structure api_Fact where
  Issuer : Int
  Number : Int
  Version : Int
  Withdrawn : Bool
  Person : Int
  Kind : Int
  State : Int
  Span : Span
  Seat : Int
  Share : Int
  Currency : Int
  Amount : Int
  Ref : Int
structure pensionhand_Fact where
  Issuer : Int
  Number : Int
  Version : Int
  Withdrawn : Bool
  Person : Int
  Kind : Int
  State : Int
  Seat : Int
  From : Int
  Length : Int
  Share : Int
  Amount : Int
  Ref : Int
structure Token where
  Kind : Int
  Text : ByteArray
  At : Int
structure pensionref5_reader where
  l : List Token
  at_ : Int
  end_ : Int
  bad : Bool
structure pensionref1_wide where
  hi : Int
  lo : Int
structure Fraction where
  Num : Int
  Den : Int
structure Expr where
  Op : Int
  Value : Fraction
  Dim : Int
  Name : ByteArray
  Args : List Expr
structure Rounding where
  Mode : Int
  Unit : Int
structure Credit where
  Kind : Int
  Limit : Int
structure Index where
  Year : Int
  Factor : Fraction
structure Let where
  Name : ByteArray
  Body : Expr
structure Grant where
  Benefit : Int
  If : Expr
  Pay : Expr
structure Reduce where
  Benefit : Int
  By : Expr
structure Version where
  From : Int
  Rounding : Rounding
  Credits : List Credit
  Series : List Index
  Lets : List Let
  Grants : List Grant
  Reduces : List Reduce
structure Statute where
  Name : ByteArray
  Currency : Int
  Versions : List Version
structure State where
  State : Int
  Statute : Statute
structure Rules where
  From : Int
  MinDays : Int
  PostingLimit : Int
  Substantial : Int
  Members : List Int
structure Rate where
  Currency : Int
  Month : Int
  Value : Fraction
structure Laws where
  States : List State
  Treaty : List Rules
  Rates : List Rate
structure pensionhand_Claim where
  Issuer : Int
  Number : Int
  Person : Int
  Benefit : Int
  Ref : Int
  Day : Int
structure Claim where
  Issuer : Int
  Number : Int
  Person : Int
  Benefit : Int
  Ref : Int
  Day : Int
structure pensionlaw26_Seeds where
  Laws : List Int
  Lives : List Int
  Facts : List pensionhand_Fact
  Claims : List pensionhand_Claim
  Day : Int
structure syntax_entry where
  name : ByteArray
  number : Int
structure Binding where
  Name : ByteArray
  Dim : Int
structure decision_file where
  x : Laws
  facts : List api_Fact
  own : List api_Fact
  claims : List Claim
  person : Int
structure Heir where
  Person : Int
  Kind : Int
  Days : Int
structure Row where
  State : Int
  Benefit : Int
  Month : Int
  Currency : Int
  Amount : Int
  Protected : Bool
def a1f : ByteArray := ⟨#[]⟩
def a81 : ByteArray := ⟨#[83, 80, 84, 72, 67, 65]⟩
def a4x : ByteArray := ⟨#[83, 80, 72, 67, 65]⟩
def b6f : ByteArray := ⟨#[83, 80, 84]⟩
def a6h : ByteArray := ⟨#[83, 80]⟩
def b2o : ByteArray := ⟨#[83, 80, 67, 65]⟩
def b66 : ByteArray := ⟨#[83, 80, 82]⟩
def b5j : ByteArray := ⟨#[80]⟩
def c0q : ByteArray := ⟨#[80, 82]⟩
def a3k : ByteArray := ⟨#[48, 49, 50, 51, 52, 53, 54, 55, 56, 57]⟩
def a8a : ByteArray := ⟨#[46]⟩
def b2s : ByteArray := ⟨#[102, 114, 111, 109, 32, 64]⟩
def a8i : ByteArray := ⟨#[32, 123, 32, 114, 111, 117, 110, 100, 32]⟩
def b3e : ByteArray := ⟨#[100, 111, 119, 110, 32, 49, 59, 32]⟩
def b83 : ByteArray := ⟨#[99, 114, 101, 100, 105, 116, 32, 118, 111, 108, 117, 110, 116, 97, 114, 121, 59, 32, 99, 114, 101, 100, 105, 116, 32, 117, 110, 101, 109, 112, 108, 111, 121, 101, 100, 32, 108, 105, 109, 105, 116, 32]⟩
def a3c : ByteArray := ⟨#[59, 32]⟩
def b7l : ByteArray := ⟨#[99, 114, 101, 100, 105, 116, 32, 99, 104, 105, 108, 100, 32, 108, 105, 109, 105, 116, 32]⟩
def b8i : ByteArray := ⟨#[99, 114, 101, 100, 105, 116, 32, 114, 101, 115, 105, 100, 101, 110, 99, 101, 59, 32]⟩
def b8f : ByteArray := ⟨#[105, 110, 100, 101, 120, 32, 49, 57, 54, 48, 32, 49, 59, 32, 105, 110, 100, 101, 120, 32, 49, 57, 56, 48, 32]⟩
def b8b : ByteArray := ⟨#[59, 32, 105, 110, 100, 101, 120, 32, 49, 57, 57, 53, 32]⟩
def b7z : ByteArray := ⟨#[108, 101, 116, 32, 115, 112, 101, 110, 116, 32, 61, 32, 105, 110, 115, 117, 114, 101, 100, 32, 47, 32]⟩
def b7x : ByteArray := ⟨#[100, 59, 32, 108, 101, 116, 32, 112, 97, 114, 116, 32, 61, 32, 109, 105, 110, 40, 115, 112, 101, 110, 116, 32, 42, 32]⟩
def b7r : ByteArray := ⟨#[44, 32, 48, 46, 56, 48, 41, 59, 32]⟩
def b7m : ByteArray := ⟨#[103, 114, 97, 110, 116, 32, 111, 108, 100, 32, 105, 102, 32, 97, 103, 101, 32, 62, 61, 32]⟩
def b7y : ByteArray := ⟨#[32, 97, 110, 100, 32, 105, 110, 115, 117, 114, 101, 100, 32, 62, 61, 32]⟩
def b7o : ByteArray := ⟨#[100, 32, 112, 97, 121, 32, 109, 97, 120, 40, 98, 97, 115, 101, 32, 42, 32, 112, 97, 114, 116, 44, 32]⟩
def b67 : ByteArray := ⟨#[109, 41, 59, 32]⟩
def b81 : ByteArray := ⟨#[103, 114, 97, 110, 116, 32, 100, 105, 115, 97, 98, 105, 108, 105, 116, 121, 32, 105, 102, 32, 105, 110, 115, 117, 114, 101, 100, 32, 62, 61, 32]⟩
def b7f : ByteArray := ⟨#[100, 32, 112, 97, 121, 32, 98, 97, 115, 101, 32, 42, 32]⟩
def b7q : ByteArray := ⟨#[103, 114, 97, 110, 116, 32, 115, 117, 114, 118, 105, 118, 111, 114, 32, 105, 102, 32, 119, 111, 114, 107, 101, 100, 32, 43, 32, 101, 113, 117, 97, 116, 101, 100, 32, 62, 61, 32, 51, 48, 100, 32, 112, 97, 121, 32, 98, 97, 115, 101, 32, 42, 32, 112, 97, 114, 116, 32, 42, 32, 48, 46, 54, 48, 59, 32]⟩
def b7j : ByteArray := ⟨#[103, 114, 97, 110, 116, 32, 102, 97, 109, 105, 108, 121, 32, 105, 102, 32, 105, 110, 115, 117, 114, 101, 100, 32, 62, 61, 32]⟩
def c0d : ByteArray := ⟨#[100, 32, 112, 97, 121, 32]⟩
def b8h : ByteArray := ⟨#[109, 32, 42, 32, 99, 104, 105, 108, 100, 114, 101, 110, 59, 32]⟩
def b7h : ByteArray := ⟨#[103, 114, 97, 110, 116, 32, 115, 105, 99, 107, 110, 101, 115, 115, 32, 105, 102, 32, 105, 110, 115, 117, 114, 101, 100, 32, 62, 61, 32]⟩
def b7k : ByteArray := ⟨#[100, 32, 112, 97, 121, 32, 98, 101, 115, 116, 40, 51, 41, 32, 47, 32, 49, 50, 32, 42, 32, 48, 46, 55, 48, 59, 32]⟩
def a8b : ByteArray := ⟨#[114, 101, 100, 117, 99, 101, 32, 111, 108, 100, 32, 98, 121, 32]⟩
def b50 : ByteArray := ⟨#[114, 101, 100, 117, 99, 101, 32, 100, 105, 115, 97, 98, 105, 108, 105, 116, 121, 32, 98, 121, 32, 105, 102, 32, 97, 103, 101, 32, 60, 32, 54, 48, 32, 116, 104, 101, 110, 32, 48, 46, 53, 48, 32, 101, 108, 115, 101, 32, 49, 59, 32]⟩
def a9x : ByteArray := ⟨#[125, 32]⟩
def b3d : ByteArray := ⟨#[104, 97, 108, 102, 32, 53, 59, 32]⟩
def b60 : ByteArray := ⟨#[117, 112, 32, 49, 59, 32]⟩
def b1x : ByteArray := ⟨#[101, 118, 101, 110, 32, 49, 48, 59, 32]⟩
def b4g : ByteArray := ⟨#[97, 108, 98, 97]⟩
def b4n : ByteArray := ⟨#[98, 111, 114, 97]⟩
def b1w : ByteArray := ⟨#[99, 101, 100, 97, 114]⟩
def b33 : ByteArray := ⟨#[115, 116, 97, 116, 117, 116, 101, 32]⟩
def a9w : ByteArray := ⟨#[32, 99, 117, 114, 114, 101, 110, 99, 121, 32]⟩
def b9y : ByteArray := ⟨#[32, 123, 32]⟩
def a68 : ByteArray := ⟨#[49, 57, 48, 48, 45, 48, 49, 45, 48, 49]⟩
def a67 : ByteArray := ⟨#[49, 57, 57, 54, 45, 48, 55, 45, 48, 49]⟩
def a62 : ByteArray := ⟨#[50, 48, 48, 49, 45, 48, 49, 45, 48, 49]⟩
def a2i : ByteArray := ⟨#[125]⟩
def b40 : ByteArray := ⟨#[60, 61]⟩
def a4v : ByteArray := ⟨#[62, 61]⟩
def b3z : ByteArray := ⟨#[60, 62]⟩
def b69 : ByteArray := ⟨#[97, 110, 100]⟩
def b01 : ByteArray := ⟨#[98, 101, 115, 116]⟩
def b9x : ByteArray := ⟨#[98, 121]⟩
def a1w : ByteArray := ⟨#[99, 114, 101, 100, 105, 116]⟩
def a23 : ByteArray := ⟨#[99, 117, 114, 114, 101, 110, 99, 121]⟩
def b2w : ByteArray := ⟨#[101, 108, 115, 101]⟩
def b0a : ByteArray := ⟨#[102, 108, 111, 111, 114]⟩
def b2t : ByteArray := ⟨#[102, 114, 111, 109]⟩
def a35 : ByteArray := ⟨#[103, 114, 97, 110, 116]⟩
def a9b : ByteArray := ⟨#[105, 102]⟩
def a4g : ByteArray := ⟨#[105, 110, 100, 101, 120]⟩
def a9m : ByteArray := ⟨#[108, 101, 116]⟩
def a7j : ByteArray := ⟨#[108, 105, 109, 105, 116]⟩
def b3m : ByteArray := ⟨#[109, 97, 120]⟩
def b4t : ByteArray := ⟨#[109, 105, 110]⟩
def b6d : ByteArray := ⟨#[110, 111, 116]⟩
def c2f : ByteArray := ⟨#[111, 114]⟩
def b0s : ByteArray := ⟨#[112, 97, 121]⟩
def a3n : ByteArray := ⟨#[114, 101, 100, 117, 99, 101]⟩
def b0g : ByteArray := ⟨#[114, 111, 117, 110, 100]⟩
def a33 : ByteArray := ⟨#[115, 116, 97, 116, 117, 116, 101]⟩
def b6m : ByteArray := ⟨#[116, 104, 101, 110]⟩
def c2u : ByteArray := ⟨#[0, 1, 2, 2, 3, 3, 3, 3, 4, 4, 4, 4, 4, 4, 4, 4, 5, 5, 5, 5, 5, 5, 5, 5, 5, 5, 5, 5, 5, 5, 5, 5, 6, 6, 6, 6, 6, 6, 6, 6, 6, 6, 6, 6, 6, 6, 6, 6, 6, 6, 6, 6, 6, 6, 6, 6, 6, 6, 6, 6, 6, 6, 6, 6, 7, 7, 7, 7, 7, 7, 7, 7, 7, 7, 7, 7, 7, 7, 7, 7, 7, 7, 7, 7, 7, 7, 7, 7, 7, 7, 7, 7, 7, 7, 7, 7, 7, 7, 7, 7, 7, 7, 7, 7, 7, 7, 7, 7, 7, 7, 7, 7, 7, 7, 7, 7, 7, 7, 7, 7, 7, 7, 7, 7, 7, 7, 7, 7, 8, 8, 8, 8, 8, 8, 8, 8, 8, 8, 8, 8, 8, 8, 8, 8, 8, 8, 8, 8, 8, 8, 8, 8, 8, 8, 8, 8, 8, 8, 8, 8, 8, 8, 8, 8, 8, 8, 8, 8, 8, 8, 8, 8, 8, 8, 8, 8, 8, 8, 8, 8, 8, 8, 8, 8, 8, 8, 8, 8, 8, 8, 8, 8, 8, 8, 8, 8, 8, 8, 8, 8, 8, 8, 8, 8, 8, 8, 8, 8, 8, 8, 8, 8, 8, 8, 8, 8, 8, 8, 8, 8, 8, 8, 8, 8, 8, 8, 8, 8, 8, 8, 8, 8, 8, 8, 8, 8, 8, 8, 8, 8, 8, 8, 8, 8, 8, 8, 8, 8, 8, 8, 8, 8, 8, 8, 8, 8]⟩
def a5f : ByteArray := ⟨#[118, 111, 108, 117, 110, 116, 97, 114, 121]⟩
def b20 : ByteArray := ⟨#[115, 101, 114, 118, 105, 99, 101]⟩
def a7l : ByteArray := ⟨#[117, 110, 101, 109, 112, 108, 111, 121, 101, 100]⟩
def c79 : ByteArray := ⟨#[115, 105, 99, 107]⟩
def b6g : ByteArray := ⟨#[99, 104, 105, 108, 100]⟩
def a8e : ByteArray := ⟨#[114, 101, 115, 105, 100, 101, 110, 99, 101]⟩
def b7u : ByteArray := ⟨#[111, 108, 100]⟩
def a4l : ByteArray := ⟨#[100, 105, 115, 97, 98, 105, 108, 105, 116, 121]⟩
def b0i : ByteArray := ⟨#[115, 117, 114, 118, 105, 118, 111, 114]⟩
def b3v : ByteArray := ⟨#[102, 97, 109, 105, 108, 121]⟩
def b0c : ByteArray := ⟨#[115, 105, 99, 107, 110, 101, 115, 115]⟩
def b9i : ByteArray := ⟨#[100, 111, 119, 110]⟩
def c8g : ByteArray := ⟨#[117, 112]⟩
def b8n : ByteArray := ⟨#[104, 97, 108, 102]⟩
def b8r : ByteArray := ⟨#[101, 118, 101, 110]⟩
def c5t : ByteArray := ⟨#[43]⟩
def b6h : ByteArray := ⟨#[45]⟩
def a7c : ByteArray := ⟨#[42]⟩
def b7t : ByteArray := ⟨#[47]⟩
def c7g : ByteArray := ⟨#[60]⟩
def b5y : ByteArray := ⟨#[61]⟩
def d11 : ByteArray := ⟨#[62]⟩
def a7w : ByteArray := ⟨#[40]⟩
def a9p : ByteArray := ⟨#[41]⟩
def c09 : ByteArray := ⟨#[44]⟩
def a07 : ByteArray := ⟨#[59]⟩
def b2b : ByteArray := ⟨#[123]⟩
def e1v : ByteArray := ⟨#[100]⟩
def e4m : ByteArray := ⟨#[109]⟩
def b7n : ByteArray := ⟨#[97, 103, 101]⟩
def a3p : ByteArray := ⟨#[105, 110, 115, 117, 114, 101, 100]⟩
def a8t : ByteArray := ⟨#[98, 97, 115, 101]⟩
def b4a : ByteArray := ⟨#[119, 111, 114, 107, 101, 100]⟩
def b27 : ByteArray := ⟨#[101, 113, 117, 97, 116, 101, 100]⟩
def c1y : ByteArray := ⟨#[114, 97, 105, 115, 105, 110, 103]⟩
def c9a : ByteArray := ⟨#[114, 101, 115, 105, 100, 101, 110, 116]⟩
def d2k : ByteArray := ⟨#[121, 101, 97, 114]⟩
def b0d : ByteArray := ⟨#[99, 104, 105, 108, 100, 114, 101, 110]⟩
def f1g : ByteArray := ⟨#[83]⟩
def f3t : ByteArray := ⟨#[84]⟩
def f40 : ByteArray := ⟨#[72]⟩
def f4y : ByteArray := ⟨#[67]⟩
def f1m : ByteArray := ⟨#[65]⟩
def f2u : ByteArray := ⟨#[82]⟩
def b1z (a b : List Int) : Option Int := some (f3d (a.map fun x => x) (b.map fun x => x))
def a5d (s : ByteArray) (c : Int) : Option Int := some (e86 s c)
def b6 (a0 : Int) (a1 : Int) : Option Int :=
 (b2j a0 a1).bind fun v1 =>
 if (decide (v1 < 0)) then
 some (i64 (v1 + a1))
 else
 some v1
def c8 (a0 : List Int) (a1 : Int) : Option Int :=
 if ((a0.length : Int) == 0) then
 some 0
 else
 (b6 a1 (a0.length : Int)).bind fun v1 =>
 (l8 a0 v1).bind fun v2 =>
 some v2
def b1d (a0 : List Int) (r2 : ((List api_Fact) × Int) -> Option (List api_Fact)) (v1 : (List api_Fact) × Int) : Option (List api_Fact) :=
 if (decide (v1.2 <= 2)) then
 (c8 a0 v1.2).bind fun v3 =>
 (b6 v3 3).bind fun v4 =>
 (c8 a0 (i64 (v1.2 + 2))).bind fun v5 =>
 (b6 v5 3).bind fun v6 =>
 (c8 a0 (i64 (v1.2 + 4))).bind fun v7 =>
 (b6 v7 6000).bind fun v8 =>
 (c8 a0 (i64 (v1.2 + 6))).bind fun v9 =>
 (b6 v9 3000).bind fun v10 =>
 (a8w 112 v1.1 [(⟨v4, i64 (900 + v1.2), 1, false, v1.2, 11, 0, (⟨i64 (13000 + v10), i64 ((i64 (13000 + v10)) + 1)⟩ : Span), 0, 0, 0, 0, 0⟩ : api_Fact)]).bind fun v11 =>
 (a8w 112 v11 [(⟨v4, i64 (910 + v1.2), 1, false, v1.2, 5, v4, (⟨20000, 60000⟩ : Span), 0, 0, 0, 0, 0⟩ : api_Fact)]).bind fun v12 =>
 (c8 a0 (i64 (v1.2 + 8))).bind fun v13 =>
 (b6 v13 900000).bind fun v14 =>
 (a8w 112 v12 [(⟨v4, i64 (920 + v1.2), 1, false, v1.2, 1, v4, (⟨22000, i64 (27000 + v8)⟩ : Span), v4, 100, i64 (1 + v4), i64 (900000 + v14), 0⟩ : api_Fact)]).bind fun v15 =>
 (c8 a0 (i64 (v1.2 + 10))).bind fun v16 =>
 (b6 v16 3000).bind fun v17 =>
 (c8 a0 (i64 (v1.2 + 12))).bind fun v18 =>
 (b6 v18 900000).bind fun v19 =>
 (a8w 112 v15 [(⟨v6, i64 (930 + v1.2), 1, false, v1.2, 1, v6, (⟨i64 (27000 + v8), i64 (34400 + v17)⟩ : Span), v6, 50, i64 (1 + v6), i64 (700000 + v19), 0⟩ : api_Fact)]).bind fun v20 =>
 (a8w 112 v20 [(⟨v4, i64 (940 + v1.2), 1, false, v1.2, 10, v4, (⟨32000, 38500⟩ : Span), 0, 0, 0, 0, 3⟩ : api_Fact)]).bind fun v21 =>
 (a8w 112 v21 [(⟨v4, i64 (950 + v1.2), 1, false, v1.2, 14, 0, (⟨26000, 50000⟩ : Span), 0, 0, 0, 0, i64 (3 - v1.2)⟩ : api_Fact)]).bind fun v22 =>
 r2 (v22, i64 (v1.2 + 1))
 else
 (c8 a0 15).bind fun v23 =>
 (b6 v23 2000).bind fun v24 =>
 (c8 a0 16).bind fun v25 =>
 (b6 v25 2000).bind fun v26 =>
 (a8w 112 v1.1 [(⟨0, 961, 1, false, 1, 13, 0, (⟨i64 (34000 + v24), i64 (36500 + v26)⟩ : Span), 0, 0, 0, 0, 0⟩ : api_Fact)]).bind fun v27 =>
 (c8 a0 17).bind fun v28 =>
 (b6 v28 900).bind fun v29 =>
 (c8 a0 17).bind fun v30 =>
 (b6 v30 900).bind fun v31 =>
 (a8w 112 v27 [(⟨1, 962, 1, false, 2, 12, 0, (⟨i64 (35600 + v29), i64 (35601 + v31)⟩ : Span), 0, 0, 0, 0, 0⟩ : api_Fact)]).bind fun v32 =>
 (c8 a0 18).bind fun v33 =>
 (b6 v33 1200).bind fun v34 =>
 (c8 a0 19).bind fun v35 =>
 (b6 v35 300).bind fun v36 =>
 (a8w 112 v32 [(⟨0, 963, 1, false, 1, 8, 0, (⟨i64 (35000 + v34), i64 (36250 + v36)⟩ : Span), 0, 0, 0, 0, 0⟩ : api_Fact)]).bind fun v37 =>
 some v37
def a72 (a0 : List Int) : Option (List api_Fact) :=
 d9 FU (b1d a0) ([], 1)
def a64 (a0 : Int) : Option Int :=
 (b6 a0 4).bind fun v1 =>
 if (v1 == 0) then
 (b5i a0 4).bind fun v2 =>
 (b6 v2 9000).bind fun v3 =>
 some (i64 (1 + v3))
 else
 if (v1 == 1) then
 (b5i a0 4).bind fun v4 =>
 (b6 v4 1200).bind fun v5 =>
 some (i64 (1 + v5))
 else
 if (v1 == 2) then
 (b5i a0 4).bind fun v6 =>
 (b6 v6 120).bind fun v7 =>
 some (i64 (1 + v7))
 else
 (b5i a0 4).bind fun v8 =>
 (b6 v8 12).bind fun v9 =>
 some (i64 (1 + v9))
def a4t (a0 : Int) : Option ByteArray :=
 (if (decide (a0 < 1)) then some true else some (decide (a0 >= ([a1f, a81, a4x, a4x, b6f, a6h, b2o, a6h, a6h, a6h, b66, b5j, b5j, b5j, c0q].length : Int)))).bind fun v1 =>
 if v1 then
 some a1f
 else
 (l8 [a1f, a81, a4x, a4x, b6f, a6h, b2o, a6h, a6h, a6h, b66, b5j, b5j, b5j, c0q] a0).bind fun v2 =>
 (l8 [a1f, a81, a4x, a4x, b6f, a6h, b2o, a6h, a6h, a6h, b66, b5j, b5j, b5j, c0q] a0).bind fun v3 =>
 some v3
def b28 (v10 : ByteArray) (v9 : pensionhand_Fact × api_Fact × api_Fact × Int × Int) (r12 : (pensionhand_Fact × api_Fact × api_Fact × Int) -> Option api_Fact) (v11 : pensionhand_Fact × api_Fact × api_Fact × Int) : Option api_Fact :=
 if (decide (v11.2.2.2 < (v10.size : Int))) then
 (a8y v10 v11.2.2.2).bind fun v13 =>
 if (v13 == 83) then
 (b6 v11.1.State 3).bind fun v14 =>
 r12 (v11.1, v11.2.1, (⟨v11.2.2.1.Issuer, v11.2.2.1.Number, v11.2.2.1.Version, v11.2.2.1.Withdrawn, v11.2.2.1.Person, v11.2.2.1.Kind, v14, v11.2.2.1.Span, v11.2.2.1.Seat, v11.2.2.1.Share, v11.2.2.1.Currency, v11.2.2.1.Amount, v11.2.2.1.Ref⟩ : api_Fact), i64 (v11.2.2.2 + 1))
 else
 if (v13 == 80) then
 r12 (v11.1, v11.2.1, (⟨v11.2.2.1.Issuer, v11.2.2.1.Number, v11.2.2.1.Version, v11.2.2.1.Withdrawn, v11.2.2.1.Person, v11.2.2.1.Kind, v11.2.2.1.State, (⟨v9.2.2.2.1, v9.2.2.2.2⟩ : Span), v11.2.2.1.Seat, v11.2.2.1.Share, v11.2.2.1.Currency, v11.2.2.1.Amount, v11.2.2.1.Ref⟩ : api_Fact), i64 (v11.2.2.2 + 1))
 else
 if (v13 == 84) then
 (b6 v11.1.Seat 3).bind fun v15 =>
 (if (v11.2.2.1.Kind == 4) then some (v15 == v11.2.2.1.State) else some false).bind fun v16 =>
 if v16 then
 (b6 (i64 (v11.2.2.1.State + 1)) 3).bind fun v17 =>
 r12 (v11.1, v11.2.1, (⟨v11.2.2.1.Issuer, v11.2.2.1.Number, v11.2.2.1.Version, v11.2.2.1.Withdrawn, v11.2.2.1.Person, v11.2.2.1.Kind, v11.2.2.1.State, v11.2.2.1.Span, v17, v11.2.2.1.Share, v11.2.2.1.Currency, v11.2.2.1.Amount, v11.2.2.1.Ref⟩ : api_Fact), i64 (v11.2.2.2 + 1))
 else
 r12 (v11.1, v11.2.1, (⟨v11.2.2.1.Issuer, v11.2.2.1.Number, v11.2.2.1.Version, v11.2.2.1.Withdrawn, v11.2.2.1.Person, v11.2.2.1.Kind, v11.2.2.1.State, v11.2.2.1.Span, v15, v11.2.2.1.Share, v11.2.2.1.Currency, v11.2.2.1.Amount, v11.2.2.1.Ref⟩ : api_Fact), i64 (v11.2.2.2 + 1))
 else
 if (v13 == 72) then
 (b6 v11.1.Share 100).bind fun v18 =>
 r12 (v11.1, v11.2.1, (⟨v11.2.2.1.Issuer, v11.2.2.1.Number, v11.2.2.1.Version, v11.2.2.1.Withdrawn, v11.2.2.1.Person, v11.2.2.1.Kind, v11.2.2.1.State, v11.2.2.1.Span, v11.2.2.1.Seat, i64 (1 + v18), v11.2.2.1.Currency, v11.2.2.1.Amount, v11.2.2.1.Ref⟩ : api_Fact), i64 (v11.2.2.2 + 1))
 else
 if (v13 == 67) then
 (b2j v11.1.State 3).bind fun v19 =>
 (b6 (i64 (v11.1.Seat + v19)) 3).bind fun v20 =>
 r12 (v11.1, v11.2.1, (⟨v11.2.2.1.Issuer, v11.2.2.1.Number, v11.2.2.1.Version, v11.2.2.1.Withdrawn, v11.2.2.1.Person, v11.2.2.1.Kind, v11.2.2.1.State, v11.2.2.1.Span, v11.2.2.1.Seat, v11.2.2.1.Share, i64 (1 + v20), v11.2.2.1.Amount, v11.2.2.1.Ref⟩ : api_Fact), i64 (v11.2.2.2 + 1))
 else
 if (v13 == 65) then
 (b6 v11.1.Amount 3000000).bind fun v21 =>
 r12 (v11.1, v11.2.1, (⟨v11.2.2.1.Issuer, v11.2.2.1.Number, v11.2.2.1.Version, v11.2.2.1.Withdrawn, v11.2.2.1.Person, v11.2.2.1.Kind, v11.2.2.1.State, v11.2.2.1.Span, v11.2.2.1.Seat, v11.2.2.1.Share, v11.2.2.1.Currency, v21, v11.2.2.1.Ref⟩ : api_Fact), i64 (v11.2.2.2 + 1))
 else
 (b6 v11.1.Ref 4).bind fun v22 =>
 if ((i64 (1 + v22)) == v11.2.2.1.Person) then
 (b6 v11.2.2.1.Person 4).bind fun v23 =>
 r12 (v11.1, v11.2.1, (⟨v11.2.2.1.Issuer, v11.2.2.1.Number, v11.2.2.1.Version, v11.2.2.1.Withdrawn, v11.2.2.1.Person, v11.2.2.1.Kind, v11.2.2.1.State, v11.2.2.1.Span, v11.2.2.1.Seat, v11.2.2.1.Share, v11.2.2.1.Currency, v11.2.2.1.Amount, i64 (1 + v23)⟩ : api_Fact), i64 (v11.2.2.2 + 1))
 else
 r12 (v11.1, v11.2.1, (⟨v11.2.2.1.Issuer, v11.2.2.1.Number, v11.2.2.1.Version, v11.2.2.1.Withdrawn, v11.2.2.1.Person, v11.2.2.1.Kind, v11.2.2.1.State, v11.2.2.1.Span, v11.2.2.1.Seat, v11.2.2.1.Share, v11.2.2.1.Currency, v11.2.2.1.Amount, i64 (1 + v22)⟩ : api_Fact), i64 (v11.2.2.2 + 1))
 else
 some v11.2.2.1
def a2f (v9 : pensionhand_Fact × api_Fact × api_Fact × Int × Int) : Option api_Fact :=
 (a4t v9.2.2.1.Kind).bind fun v10 =>
 d9 FU (b28 v10 v9) (v9.1, v9.2.1, v9.2.2.1, 0)
def a7s (a0 : pensionhand_Fact) : Option api_Fact :=
 (b6 a0.Issuer 3).bind fun v1 =>
 (b6 a0.Number 20).bind fun v2 =>
 (b6 a0.Version 3).bind fun v3 =>
 (b6 a0.Person 4).bind fun v4 =>
 (b6 a0.Kind 14).bind fun v5 =>
 (b6 a0.From 16000).bind fun v6 =>
 (a64 a0.Length).bind fun v7 =>
 if ((i64 (1 + v5)) == 11) then
 (b6 a0.From 5000).bind fun v8 =>
 joinC a2f (a0, (⟨0, 0, 0, false, 0, 0, 0, (⟨0, 0⟩ : Span), 0, 0, 0, 0, 0⟩ : api_Fact), (⟨v1, i64 (1 + v2), i64 (1 + v3), a0.Withdrawn, i64 (1 + v4), i64 (1 + v5), 0, (⟨0, 0⟩ : Span), 0, 0, 0, 0, 0⟩ : api_Fact), i64 (12000 + v8), i64 ((i64 (12000 + v8)) + 1))
 else
 if ((i64 (1 + v5)) == 12) then
 (b6 a0.From 6000).bind fun v24 =>
 joinC a2f (a0, (⟨0, 0, 0, false, 0, 0, 0, (⟨0, 0⟩ : Span), 0, 0, 0, 0, 0⟩ : api_Fact), (⟨v1, i64 (1 + v2), i64 (1 + v3), a0.Withdrawn, i64 (1 + v4), i64 (1 + v5), 0, (⟨0, 0⟩ : Span), 0, 0, 0, 0, 0⟩ : api_Fact), i64 (34000 + v24), i64 ((i64 (34000 + v24)) + 1))
 else
 if ((i64 (1 + v5)) == 8) then
 (b6 a0.From 4000).bind fun v25 =>
 (b6 a0.Length 700).bind fun v26 =>
 joinC a2f (a0, (⟨0, 0, 0, false, 0, 0, 0, (⟨0, 0⟩ : Span), 0, 0, 0, 0, 0⟩ : api_Fact), (⟨v1, i64 (1 + v2), i64 (1 + v3), a0.Withdrawn, i64 (1 + v4), i64 (1 + v5), 0, (⟨0, 0⟩ : Span), 0, 0, 0, 0, 0⟩ : api_Fact), i64 (34000 + v25), i64 ((i64 ((i64 (34000 + v25)) + 1)) + v26))
 else
 joinC a2f (a0, (⟨0, 0, 0, false, 0, 0, 0, (⟨0, 0⟩ : Span), 0, 0, 0, 0, 0⟩ : api_Fact), (⟨v1, i64 (1 + v2), i64 (1 + v3), a0.Withdrawn, i64 (1 + v4), i64 (1 + v5), 0, (⟨0, 0⟩ : Span), 0, 0, 0, 0, 0⟩ : api_Fact), i64 (21900 + v6), i64 ((i64 (21900 + v6)) + v7))
def b12 (a0 : List pensionhand_Fact) (r2 : ((List api_Fact) × Int) -> Option (List api_Fact)) (v1 : (List api_Fact) × Int) : Option (List api_Fact) :=
 (if (decide (v1.2 < (a0.length : Int))) then some (decide (v1.2 < 12)) else some false).bind fun v3 =>
 if v3 then
 (l8 a0 v1.2).bind fun v4 =>
 (a7s v4).bind fun v5 =>
 (a8w 112 v1.1 [v5]).bind fun v6 =>
 r2 (v6, i64 (v1.2 + 1))
 else
 some v1.1
def a70 (a0 : List pensionhand_Fact) : Option (List api_Fact) :=
 d9 FU (b12 a0) ([], 0)
def a0g (r2 : (Int × ByteArray) -> Option ByteArray) (v1 : Int × ByteArray) : Option ByteArray :=
 if (decide (v1.1 > 9)) then
 (b2j v1.1 10).bind fun v3 =>
 (b2j v1.1 10).bind fun v4 =>
 (b5f a3k v3 (i64 (v4 + 1))).bind fun v5 =>
 (a40 v5 v1.2).bind fun v6 =>
 (b5i v1.1 10).bind fun v7 =>
 r2 (v7, v6)
 else
 (b5f a3k v1.1 (i64 (v1.1 + 1))).bind fun v8 =>
 (a40 v8 v1.2).bind fun v9 =>
 some v9
def k6 (a0 : Int) : Option ByteArray :=
 d9 FU a0g (a0, a1f)
def q6 (a0 : Int) : Option ByteArray :=
 (b5i a0 100).bind fun v1 =>
 (k6 v1).bind fun v2 =>
 (a40 v2 a8a).bind fun v3 =>
 (b5i a0 10).bind fun v4 =>
 (b2j v4 10).bind fun v5 =>
 (k6 v5).bind fun v6 =>
 (a40 v3 v6).bind fun v7 =>
 (b2j a0 10).bind fun v8 =>
 (k6 v8).bind fun v9 =>
 (a40 v7 v9).bind fun v10 =>
 some v10
def a0v (v104 : (List Int) × Int × ByteArray) : Option ByteArray :=
 (c8 v104.1 (i64 (v104.2.1 + 18))).bind fun v105 =>
 (b6 v105 3).bind fun v106 =>
 if (v106 == 0) then
 (a40 v104.2.2 b50).bind fun v107 =>
 (a40 v107 a9x).bind fun v108 =>
 some v108
 else
 (a40 v104.2.2 a9x).bind fun v109 =>
 some v109
def a0z (v78 : (List Int) × Int × ByteArray) : Option ByteArray :=
 (c8 v78.1 (i64 (v78.2.1 + 14))).bind fun v79 =>
 (b6 v79 800).bind fun v80 =>
 (k6 v80).bind fun v81 =>
 (a40 b7j v81).bind fun v82 =>
 (a40 v82 c0d).bind fun v83 =>
 (c8 v78.1 (i64 (v78.2.1 + 15))).bind fun v84 =>
 (b6 v84 300).bind fun v85 =>
 (k6 (i64 (10 + v85))).bind fun v86 =>
 (a40 v83 v86).bind fun v87 =>
 (a40 v87 b8h).bind fun v88 =>
 (a40 v78.2.2 v88).bind fun v89 =>
 (c8 v78.1 (i64 (v78.2.1 + 16))).bind fun v90 =>
 (b6 v90 400).bind fun v91 =>
 (k6 v91).bind fun v92 =>
 (a40 b7h v92).bind fun v93 =>
 (a40 v93 b7k).bind fun v94 =>
 (a40 v89 v94).bind fun v95 =>
 (c8 v78.1 (i64 (v78.2.1 + 17))).bind fun v96 =>
 (b6 v96 3).bind fun v97 =>
 if (decide (v97 > 0)) then
 (c8 v78.1 (i64 (v78.2.1 + 17))).bind fun v98 =>
 (b6 v98 11).bind fun v99 =>
 (q6 (i64 (10 * v99))).bind fun v100 =>
 (a40 a8b v100).bind fun v101 =>
 (a40 v101 a3c).bind fun v102 =>
 (a40 v95 v102).bind fun v103 =>
 joinC a0v (v78.1, v78.2.1, v103)
 else
 joinC a0v (v78.1, v78.2.1, v95)
def a0x (v28 : (List Int) × Int × ByteArray × ByteArray) : Option ByteArray :=
 (c8 v28.1 (i64 (v28.2.1 + 5))).bind fun v29 =>
 (b6 v29 300).bind fun v30 =>
 (q6 (i64 (100 + v30))).bind fun v31 =>
 (a40 b8f v31).bind fun v32 =>
 (a40 v32 b8b).bind fun v33 =>
 (c8 v28.1 (i64 (v28.2.1 + 6))).bind fun v34 =>
 (b6 v34 300).bind fun v35 =>
 (q6 (i64 (400 + v35))).bind fun v36 =>
 (a40 v33 v36).bind fun v37 =>
 (a40 v37 a3c).bind fun v38 =>
 (a40 v28.2.2.2 v38).bind fun v39 =>
 (a40 b7z v28.2.2.1).bind fun v40 =>
 (a40 v40 b7x).bind fun v41 =>
 (c8 v28.1 (i64 (v28.2.1 + 7))).bind fun v42 =>
 (b6 v42 4).bind fun v43 =>
 (q6 (i64 (1 + v43))).bind fun v44 =>
 (a40 v41 v44).bind fun v45 =>
 (a40 v45 b7r).bind fun v46 =>
 (a40 v39 v46).bind fun v47 =>
 (c8 v28.1 (i64 (v28.2.1 + 8))).bind fun v48 =>
 (b6 v48 12).bind fun v49 =>
 (k6 (i64 (50 + v49))).bind fun v50 =>
 (a40 b7m v50).bind fun v51 =>
 (a40 v51 b7y).bind fun v52 =>
 (c8 v28.1 (i64 (v28.2.1 + 9))).bind fun v53 =>
 (b6 v53 6000).bind fun v54 =>
 (k6 v54).bind fun v55 =>
 (a40 v52 v55).bind fun v56 =>
 (a40 v56 b7o).bind fun v57 =>
 (c8 v28.1 (i64 (v28.2.1 + 10))).bind fun v58 =>
 (b6 v58 900).bind fun v59 =>
 (k6 v59).bind fun v60 =>
 (a40 v57 v60).bind fun v61 =>
 (a40 v61 b67).bind fun v62 =>
 (a40 v47 v62).bind fun v63 =>
 (c8 v28.1 (i64 (v28.2.1 + 11))).bind fun v64 =>
 (b6 v64 2000).bind fun v65 =>
 (k6 v65).bind fun v66 =>
 (a40 b81 v66).bind fun v67 =>
 (a40 v67 b7f).bind fun v68 =>
 (c8 v28.1 (i64 (v28.2.1 + 12))).bind fun v69 =>
 (b6 v69 60).bind fun v70 =>
 (q6 (i64 (20 + v70))).bind fun v71 =>
 (a40 v68 v71).bind fun v72 =>
 (a40 v72 a3c).bind fun v73 =>
 (a40 v63 v73).bind fun v74 =>
 (c8 v28.1 (i64 (v28.2.1 + 13))).bind fun v75 =>
 (b6 v75 5).bind fun v76 =>
 if (decide (v76 > 0)) then
 (a40 v74 b7q).bind fun v77 =>
 joinC a0z (v28.1, v28.2.1, v77)
 else
 joinC a0z (v28.1, v28.2.1, v74)
def a0y (v24 : (List Int) × Int × ByteArray × ByteArray) : Option ByteArray :=
 (c8 v24.1 (i64 (v24.2.1 + 4))).bind fun v25 =>
 (b6 v25 4).bind fun v26 =>
 if (v26 == 0) then
 (a40 v24.2.2.2 b8i).bind fun v27 =>
 joinC a0x (v24.1, v24.2.1, v24.2.2.1, v27)
 else
 joinC a0x (v24.1, v24.2.1, v24.2.2.1, v24.2.2.2)
def y5 (v9 : (List Int) × Int × ByteArray × ByteArray) : Option ByteArray :=
 (c8 v9.1 (i64 (v9.2.1 + 2))).bind fun v10 =>
 (b6 v10 900).bind fun v11 =>
 (k6 (i64 (1 + v11))).bind fun v12 =>
 (a40 b83 v12).bind fun v13 =>
 (a40 v13 a3c).bind fun v14 =>
 (a40 v9.2.2.2 v14).bind fun v15 =>
 (c8 v9.1 (i64 (v9.2.1 + 3))).bind fun v16 =>
 (b6 v16 3).bind fun v17 =>
 if (decide (v17 > 0)) then
 (c8 v9.1 (i64 (v9.2.1 + 3))).bind fun v18 =>
 (b6 v18 1000).bind fun v19 =>
 (k6 (i64 (100 + v19))).bind fun v20 =>
 (a40 b7l v20).bind fun v21 =>
 (a40 v21 a3c).bind fun v22 =>
 (a40 v15 v22).bind fun v23 =>
 joinC a0y (v9.1, v9.2.1, v9.2.2.1, v23)
 else
 joinC a0y (v9.1, v9.2.1, v9.2.2.1, v15)
def a0i (a0 : ByteArray) (a1 : List Int) (a2 : Int) : Option ByteArray :=
 (c8 a1 a2).bind fun v1 =>
 (b6 v1 90).bind fun v2 =>
 (k6 (i64 (300 + v2))).bind fun v3 =>
 (a40 b2s a0).bind fun v4 =>
 (a40 v4 a8i).bind fun v5 =>
 (c8 a1 (i64 (a2 + 1))).bind fun v6 =>
 (b6 v6 4).bind fun v7 =>
 if (v7 == 0) then
 (a40 v5 b3e).bind fun v8 =>
 joinC y5 (a1, a2, v3, v8)
 else
 if (v7 == 1) then
 (a40 v5 b3d).bind fun v110 =>
 joinC y5 (a1, a2, v3, v110)
 else
 if (v7 == 2) then
 (a40 v5 b60).bind fun v111 =>
 joinC y5 (a1, a2, v3, v111)
 else
 (a40 v5 b1x).bind fun v112 =>
 joinC y5 (a1, a2, v3, v112)
def a2a (v14 : Int × (List Int) × ByteArray) : Option ByteArray :=
 (c8 v14.2.1 (i64 (37 + v14.1))).bind fun v15 =>
 (b6 v15 3).bind fun v16 =>
 if (v16 == 0) then
 (a0i a62 v14.2.1 (i64 ((i64 (7 * v14.1)) + 5))).bind fun v17 =>
 (a40 v14.2.2 v17).bind fun v18 =>
 (a40 v18 a2i).bind fun v19 =>
 some v19
 else
 (a40 v14.2.2 a2i).bind fun v20 =>
 some v20
def a0m (a0 : Int) (a1 : List Int) : Option ByteArray :=
 (l8 (⟨[b4g, b4n, b1w], rfl⟩ : Ar 3 ByteArray).l a0).bind fun v1 =>
 (l8 (⟨[b4g, b4n, b1w], rfl⟩ : Ar 3 ByteArray).l a0).bind fun v2 =>
 (a40 b33 v2).bind fun v3 =>
 (a40 v3 a9w).bind fun v4 =>
 (k6 (i64 (1 + a0))).bind fun v5 =>
 (a40 v4 v5).bind fun v6 =>
 (a40 v6 b9y).bind fun v7 =>
 (a0i a68 a1 (i64 (7 * a0))).bind fun v8 =>
 (a40 v7 v8).bind fun v9 =>
 (c8 a1 (i64 (31 + a0))).bind fun v10 =>
 (b6 v10 3).bind fun v11 =>
 if (decide (v11 > 0)) then
 (a0i a67 a1 (i64 ((i64 (7 * a0)) + 3))).bind fun v12 =>
 (a40 v9 v12).bind fun v13 =>
 joinC a2a (a0, a1, v13)
 else
 joinC a2a (a0, a1, v9)
def a3x (a0 : ByteArray) (r2 : (Int × Bool) -> Option Int) (v1 : Int × Bool) : Option Int :=
 if (decide (v1.1 < (a0.size : Int))) then
 (a8y a0 v1.1).bind fun v3 =>
 if (v3 == 10) then
 r2 (i64 (v1.1 + 1), false)
 else
 if (v3 == 35) then
 r2 (i64 (v1.1 + 1), true)
 else
 (if (!v1.2) then some (v3 != 9) else some false).bind fun v4 =>
 (if v4 then some (v3 != 13) else some false).bind fun v5 =>
 (if v5 then some (v3 != 32) else some false).bind fun v6 =>
 if v6 then
 some v1.1
 else
 r2 (i64 (v1.1 + 1), v1.2)
 else
 some v1.1
def a5l (a0 : ByteArray) (a1 : Int) : Option Int :=
 d9 FU (a3x a0) (a1, false)
def a2w (a0 : Int) : Option Bool :=
 (if (decide (a0 >= 97)) then some (decide (a0 <= 122)) else some false).bind fun v1 =>
 some v1
def a2g (a0 : Int) : Option Bool :=
 (if (decide (a0 >= 48)) then some (decide (a0 <= 57)) else some false).bind fun v1 =>
 some v1
def a4d (a1 : Int) (a0 : ByteArray) (a2 : Bool) (r2 : Int -> Option Int) (v1 : Int) : Option Int :=
 (if (decide ((i64 (a1 + v1)) < (a0.size : Int))) then (a8y a0 (i64 (a1 + v1))).bind fun v3 =>
 (a2w v3).bind fun v4 =>
 (if v4 then some true else (a8y a0 (i64 (a1 + v1))).bind fun v5 =>
 (a2g v5).bind fun v6 =>
 some v6).bind fun v7 =>
 (if v7 then some true else (a8y a0 (i64 (a1 + v1))).bind fun v8 =>
 some (v8 == 95)).bind fun v9 =>
 (if v9 then some true else (if a2 then (a8y a0 (i64 (a1 + v1))).bind fun v10 =>
 some (v10 == 46) else some false).bind fun v11 =>
 some v11).bind fun v12 =>
 some v12 else some false).bind fun v13 =>
 if v13 then
 r2 (i64 (v1 + 1))
 else
 some v1
def a3r (a0 : ByteArray) (a1 : Int) (a2 : Bool) : Option Int :=
 d9 FU (a4d a1 a0 a2) 0
def a38 (v11 : Int × ByteArray × ByteArray) (r13 : Int -> Option (ByteArray × ByteArray × Int × Bool)) (v12 : Int) : Option (ByteArray × ByteArray × Int × Bool) :=
 if (decide (v12 < (i64 ((v11.2.1.size : Int) + (v11.2.2.size : Int))))) then
 (a40 v11.2.1 v11.2.2).bind fun v14 =>
 (a8y v14 v12).bind fun v15 =>
 (a2g v15).bind fun v16 =>
 if (!v16) then
 some (a1f, a1f, 0, false)
 else
 r13 (i64 (v12 + 1))
 else
 (if (decide ((v11.2.1.size : Int) < 1)) then some true else some (decide ((v11.2.1.size : Int) > 9))).bind fun v17 =>
 (if v17 then some true else (if (decide ((v11.2.1.size : Int) > 1)) then (a8y v11.2.1 0).bind fun v18 =>
 some (v18 == 48) else some false).bind fun v19 =>
 some v19).bind fun v20 =>
 if v20 then
 some (a1f, a1f, 0, false)
 else
 some (v11.2.1, v11.2.2, v11.1, true)
def b10 (v11 : Int × ByteArray × ByteArray) : Option (ByteArray × ByteArray × Int × Bool) :=
 d9 FU (a38 v11) 0
def a3b (v4 : ByteArray × Int) (r6 : (Int × Int) -> Option (ByteArray × ByteArray × Int × Bool)) (v5 : Int × Int) : Option (ByteArray × ByteArray × Int × Bool) :=
 if (decide (v5.2 >= 0)) then
 (a8y v4.1 v5.2).bind fun v7 =>
 if (v7 == 46) then
 r6 (v5.2, i64 (v5.2 - 1))
 else
 r6 (v5.1, i64 (v5.2 - 1))
 else
 (b5f v4.1 0 v5.1).bind fun v8 =>
 if (decide (v5.1 < (v4.1.size : Int))) then
 (b5f v4.1 (i64 (v5.1 + 1)) (v4.1.size : Int)).bind fun v9 =>
 (if (decide ((v9.size : Int) < 1)) then some true else some (decide ((v9.size : Int) > 4))).bind fun v10 =>
 if v10 then
 some (a1f, a1f, 0, false)
 else
 joinC b10 (v4.2, v8, v9)
 else
 joinC b10 (v4.2, v8, a1f)
def a39 (v4 : ByteArray × Int) : Option (ByteArray × ByteArray × Int × Bool) :=
 d9 FU (a3b v4) ((v4.1.size : Int), i64 ((v4.1.size : Int) - 1))
def a0a (a0 : ByteArray) : Option (ByteArray × ByteArray × Int × Bool) :=
 (if (decide ((a0.size : Int) > 0)) then (a8y a0 (i64 ((a0.size : Int) - 1))).bind fun v1 =>
 some (v1 == 100) else some false).bind fun v2 =>
 if v2 then
 (b5f a0 0 (i64 ((a0.size : Int) - 1))).bind fun v3 =>
 joinC a39 (v3, 3)
 else
 (if (decide ((a0.size : Int) > 0)) then (a8y a0 (i64 ((a0.size : Int) - 1))).bind fun v21 =>
 some (v21 == 109) else some false).bind fun v22 =>
 if v22 then
 (b5f a0 0 (i64 ((a0.size : Int) - 1))).bind fun v23 =>
 joinC a39 (v23, 4)
 else
 joinC a39 (a0, 2)
def b6w (a0 : ByteArray) (r2 : (Int × Int) -> Option (Int × Bool)) (v1 : Int × Int) : Option (Int × Bool) :=
 if (decide (v1.2 < (a0.size : Int))) then
 (a8y a0 v1.2).bind fun v3 =>
 (if (decide (v3 < 48)) then some true else (a8y a0 v1.2).bind fun v4 =>
 some (decide (v4 > 57))).bind fun v5 =>
 if v5 then
 some (0, false)
 else
 (a8y a0 v1.2).bind fun v6 =>
 r2 (i64 ((i64 (v1.1 * 10)) + (i64 (IntKind.u8.wrap (v6 - 48)))), i64 (v1.2 + 1))
 else
 some (v1.1, decide ((a0.size : Int) > 0))
def a6s (a0 : ByteArray) : Option (Int × Bool) :=
 d9 FU (b6w a0) (0, 0)
def b0r (a0 : Int) : Option Bool :=
 (b2j a0 4).bind fun v1 =>
 (if (v1 == 0) then (b2j a0 100).bind fun v2 =>
 (if (v2 != 0) then some true else (b2j a0 400).bind fun v3 =>
 some (v3 == 0)).bind fun v4 =>
 some v4 else some false).bind fun v5 =>
 some v5
def a1s (a0 : Int) (a1 : Int) : Option Int :=
 if (a1 == 2) then
 (b0r a0).bind fun v1 =>
 if v1 then
 some 29
 else
 some 28
 else
 if (a1 == 4) then
 if (a1 == 4) then
 some 30
 else
 some 31
 else
 if (a1 == 6) then
 if (a1 == 6) then
 some 30
 else
 some 31
 else
 if (a1 == 9) then
 if (a1 == 9) then
 some 30
 else
 some 31
 else
 if (a1 == 11) then
 some 30
 else
 some 31
def a7d (a0 : Int) (r2 : (Int × Int) -> Option Int) (v1 : Int × Int) : Option Int :=
 if (decide (v1.2 < a0)) then
 (b5i v1.2 12).bind fun v3 =>
 (b2j v1.2 12).bind fun v4 =>
 (a1s (i64 (1900 + v3)) (i64 (v4 + 1))).bind fun v5 =>
 r2 (i64 (v1.1 + v5), i64 (v1.2 + 1))
 else
 some v1.1
def a3m (a0 : Int) : Option Int :=
 d9 FU (a7d a0) (0, 0)
def b5u (a0 : Int) (a1 : Int) (a2 : Int) : Option (Int × Bool) :=
 (if (decide (a0 < 1900)) then some true else some (decide (a0 > 2099))).bind fun v1 =>
 (if v1 then some true else some (decide (a1 < 1))).bind fun v2 =>
 (if v2 then some true else some (decide (a1 > 12))).bind fun v3 =>
 (if v3 then some true else some (decide (a2 < 1))).bind fun v4 =>
 (if v4 then some true else (a1s a0 a1).bind fun v5 =>
 some (decide (a2 > v5))).bind fun v6 =>
 if v6 then
 some (0, false)
 else
 (a3m (i64 ((i64 ((i64 ((i64 (a0 - 1900)) * 12)) + a1)) - 1))).bind fun v7 =>
 some (i64 ((i64 (v7 + a2)) - 1), true)
def a1x (a0 : ByteArray) : Option (Int × Bool) :=
 (if ((a0.size : Int) != 10) then some true else (a8y a0 4).bind fun v1 =>
 some (v1 != 45)).bind fun v2 =>
 (if v2 then some true else (a8y a0 7).bind fun v3 =>
 some (v3 != 45)).bind fun v4 =>
 if v4 then
 some (0, false)
 else
 (b5f a0 0 4).bind fun v5 =>
 (a6s v5).bind fun v6 =>
 (b5f a0 5 7).bind fun v7 =>
 (a6s v7).bind fun v8 =>
 (b5f a0 8 (a0.size : Int)).bind fun v9 =>
 (a6s v9).bind fun v10 =>
 (if (!v6.2) then some true else some (!v8.2)).bind fun v11 =>
 (if v11 then some true else some (!v10.2)).bind fun v12 =>
 if v12 then
 some (0, false)
 else
 (b5u v6.1 v8.1 v10.1).bind fun v13 =>
 some (v13.1, v13.2)
def a58 (v4 : ByteArray × Int) : Option Int :=
 (a8y v4.1 v4.2).bind fun v5 =>
 if (v5 == 60) then
 if (v5 == 60) then
 some 1
 else
 some 0
 else
 if (v5 == 62) then
 if (v5 == 62) then
 some 1
 else
 some 0
 else
 if (v5 == 61) then
 if (v5 == 61) then
 some 1
 else
 some 0
 else
 if (v5 == 43) then
 if (v5 == 43) then
 some 1
 else
 some 0
 else
 if (v5 == 45) then
 if (v5 == 45) then
 some 1
 else
 some 0
 else
 if (v5 == 42) then
 if (v5 == 42) then
 some 1
 else
 some 0
 else
 if (v5 == 47) then
 if (v5 == 47) then
 some 1
 else
 some 0
 else
 if (v5 == 40) then
 if (v5 == 40) then
 some 1
 else
 some 0
 else
 if (v5 == 41) then
 if (v5 == 41) then
 some 1
 else
 some 0
 else
 if (v5 == 123) then
 if (v5 == 123) then
 some 1
 else
 some 0
 else
 if (v5 == 125) then
 if (v5 == 125) then
 some 1
 else
 some 0
 else
 if (v5 == 44) then
 if (v5 == 44) then
 some 1
 else
 some 0
 else
 if (v5 == 59) then
 some 1
 else
 some 0
def a2z (a0 : ByteArray) (a1 : Int) : Option Int :=
 if (decide ((i64 (a1 + 1)) < (a0.size : Int))) then
 (b5f a0 a1 (i64 (a1 + 2))).bind fun v1 =>
 (if (v1.toList == b40.toList) then some true else some (v1.toList == a4v.toList)).bind fun v2 =>
 (if v2 then some true else some (v1.toList == b3z.toList)).bind fun v3 =>
 if v3 then
 some 2
 else
 joinC a58 (a0, a1)
 else
 joinC a58 (a0, a1)
def q7 (v6 : ByteArray × Int × Token × Int × Int × Bool) : Option (Token × Int × Int) :=
 if (!v6.2.2.2.2.2) then
 some ((⟨0, a1f, 0⟩ : Token), v6.2.1, 4)
 else
 (b5f v6.1 v6.2.1 (i64 (v6.2.1 + v6.2.2.2.2.1))).bind fun v7 =>
 some ((⟨v6.2.2.2.1, v7, v6.2.1⟩ : Token), i64 (v6.2.1 + v6.2.2.2.2.1), 0)
def a45 (a0 : ByteArray) (a1 : Int) : Option (Token × Int × Int) :=
 (if (decide (a1 < 0)) then some true else some (decide (a1 > (a0.size : Int)))).bind fun v1 =>
 if v1 then
 some ((⟨0, a1f, 0⟩ : Token), 0, 1)
 else
 (a5l a0 a1).bind fun v2 =>
 if (v2 == (a0.size : Int)) then
 some ((⟨0, a1f, v2⟩ : Token), v2, 0)
 else
 (a8y a0 v2).bind fun v3 =>
 (a2w v3).bind fun v4 =>
 if v4 then
 (a3r a0 v2 false).bind fun v5 =>
 joinC q7 (a0, v2, (⟨0, a1f, 0⟩ : Token), 1, v5, decide (v5 <= 12))
 else
 (a8y a0 v2).bind fun v8 =>
 (a2g v8).bind fun v9 =>
 if v9 then
 (a3r a0 v2 true).bind fun v10 =>
 (b5f a0 v2 (i64 (v2 + v10))).bind fun v11 =>
 (a0a v11).bind fun v12 =>
 joinC q7 (a0, v2, (⟨0, a1f, 0⟩ : Token), 2, v10, v12.2.2.2)
 else
 (a8y a0 v2).bind fun v13 =>
 if (v13 == 64) then
 if (decide ((i64 ((a0.size : Int) - v2)) >= 11)) then
 (b5f a0 (i64 (v2 + 1)) (i64 (v2 + 11))).bind fun v14 =>
 (a1x v14).bind fun v15 =>
 joinC q7 (a0, v2, (⟨0, a1f, 0⟩ : Token), 3, 11, v15.2)
 else
 joinC q7 (a0, v2, (⟨0, a1f, 0⟩ : Token), 3, 11, decide ((i64 ((a0.size : Int) - v2)) >= 11))
 else
 (a2z a0 v2).bind fun v16 =>
 joinC q7 (a0, v2, (⟨0, a1f, 0⟩ : Token), 4, v16, decide (v16 > 0))
def a4h (a0 : ByteArray) (r2 : ((List Token) × Int) -> Option ((List Token) × Int × Int)) (v1 : (List Token) × Int) : Option ((List Token) × Int × Int) :=
 (a45 a0 v1.2).bind fun v3 =>
 if (v3.2.2 != 0) then
 some ([], v3.2.1, v3.2.2)
 else
 if (v3.1.Kind == 0) then
 some (v1.1, 0, 0)
 else
 (a8w 32 v1.1 [v3.1]).bind fun v4 =>
 r2 (v4, v3.2.1)
def a6e (a0 : ByteArray) : Option ((List Token) × Int × Int) :=
 if (decide ((a0.size : Int) > 8000)) then
 some ([], 0, 7)
 else
 d9 FU (a4h a0) ([], 0)
def a9r (a0 : ByteArray) : Option ((Option pensionref5_reader) × Int × Int) :=
 (a6e a0).bind fun v1 =>
 if (v1.2.2 != 0) then
 some (none, v1.2.1, v1.2.2)
 else
 some (some (⟨v1.1, 0, (a0.size : Int), false⟩ : pensionref5_reader), 0, 0)
def a03 (a0 : pensionref5_reader) (a1 : ByteArray) : Option Bool :=
 (if (!a0.bad) then some (decide (a0.at_ < (a0.l.length : Int))) else some false).bind fun v1 =>
 (if v1 then (l8 a0.l a0.at_).bind fun v2 =>
 some (v2.Text.toList == a1.toList) else some false).bind fun v3 =>
 some v3
def d8 (a0 : pensionref5_reader) (a1 : ByteArray) : Option (Bool × pensionref5_reader) :=
 (a03 a0 a1).bind fun v1 =>
 if (!v1) then
 some (false, a0)
 else
 some (true, (⟨a0.l, i64 (a0.at_ + 1), a0.end_, a0.bad⟩ : pensionref5_reader))
def p9 (a0 : pensionref5_reader) : Option pensionref5_reader :=
 some (⟨a0.l, a0.at_, a0.end_, true⟩ : pensionref5_reader)
def c6 (a0 : pensionref5_reader) (a1 : ByteArray) : Option pensionref5_reader :=
 (d8 a0 a1).bind fun v1 =>
 if (!v1.1) then
 (p9 v1.2).bind fun v2 =>
 some v2
 else
 some v1.2
def s3 (a0 : pensionref5_reader) (a1 : Int) : Option Bool :=
 (if (!a0.bad) then some (decide (a0.at_ < (a0.l.length : Int))) else some false).bind fun v1 =>
 (if v1 then (l8 a0.l a0.at_).bind fun v2 =>
 some (v2.Kind == a1) else some false).bind fun v3 =>
 some v3
def b6a (a0 : ByteArray) (r2 : Int -> Option Bool) (v1 : Int) : Option Bool :=
 if (decide (v1 < (a0.size : Int))) then
 (a8y a0 v1).bind fun v3 =>
 (a2w v3).bind fun v4 =>
 (if (!v4) then (if (v1 == 0) then some true else (a8y a0 v1).bind fun v5 =>
 (a2g v5).bind fun v6 =>
 (if (!v6) then (a8y a0 v1).bind fun v7 =>
 some (v7 != 95) else some false).bind fun v8 =>
 some v8).bind fun v9 =>
 some v9 else some false).bind fun v10 =>
 if v10 then
 some false
 else
 r2 (i64 (v1 + 1))
 else
 (if (decide ((a0.size : Int) >= 1)) then some (decide ((a0.size : Int) <= 12)) else some false).bind fun v11 =>
 some v11
def b37 (a0 : ByteArray) : Option Bool :=
 d9 FU (b6a a0) 0
def b2a (a0 : ByteArray) : Option Bool :=
 if (a0.toList == b69.toList) then
 if (a0.toList == b69.toList) then
 some true
 else
 some false
 else
 if (a0.toList == b01.toList) then
 if (a0.toList == b01.toList) then
 some true
 else
 some false
 else
 if (a0.toList == b9x.toList) then
 if (a0.toList == b9x.toList) then
 some true
 else
 some false
 else
 if (a0.toList == a1w.toList) then
 if (a0.toList == a1w.toList) then
 some true
 else
 some false
 else
 if (a0.toList == a23.toList) then
 if (a0.toList == a23.toList) then
 some true
 else
 some false
 else
 if (a0.toList == b2w.toList) then
 if (a0.toList == b2w.toList) then
 some true
 else
 some false
 else
 if (a0.toList == b0a.toList) then
 if (a0.toList == b0a.toList) then
 some true
 else
 some false
 else
 if (a0.toList == b2t.toList) then
 if (a0.toList == b2t.toList) then
 some true
 else
 some false
 else
 if (a0.toList == a35.toList) then
 if (a0.toList == a35.toList) then
 some true
 else
 some false
 else
 if (a0.toList == a9b.toList) then
 if (a0.toList == a9b.toList) then
 some true
 else
 some false
 else
 if (a0.toList == a4g.toList) then
 if (a0.toList == a4g.toList) then
 some true
 else
 some false
 else
 if (a0.toList == a9m.toList) then
 if (a0.toList == a9m.toList) then
 some true
 else
 some false
 else
 if (a0.toList == a7j.toList) then
 if (a0.toList == a7j.toList) then
 some true
 else
 some false
 else
 if (a0.toList == b3m.toList) then
 if (a0.toList == b3m.toList) then
 some true
 else
 some false
 else
 if (a0.toList == b4t.toList) then
 if (a0.toList == b4t.toList) then
 some true
 else
 some false
 else
 if (a0.toList == b6d.toList) then
 if (a0.toList == b6d.toList) then
 some true
 else
 some false
 else
 if (a0.toList == c2f.toList) then
 if (a0.toList == c2f.toList) then
 some true
 else
 some false
 else
 if (a0.toList == b0s.toList) then
 if (a0.toList == b0s.toList) then
 some true
 else
 some false
 else
 if (a0.toList == a3n.toList) then
 if (a0.toList == a3n.toList) then
 some true
 else
 some false
 else
 if (a0.toList == b0g.toList) then
 if (a0.toList == b0g.toList) then
 some true
 else
 some false
 else
 if (a0.toList == a33.toList) then
 if (a0.toList == a33.toList) then
 some true
 else
 some false
 else
 if (a0.toList == b6m.toList) then
 some true
 else
 some false
def s5 (a0 : ByteArray) : Option Bool :=
 (b37 a0).bind fun v1 =>
 (if v1 then (b2a a0).bind fun v2 =>
 some (!v2) else some false).bind fun v3 =>
 some v3
def a0r (a0 : pensionref5_reader) : Option (ByteArray × pensionref5_reader) :=
 (s3 a0 1).bind fun v1 =>
 (if (!v1) then some true else (l8 a0.l a0.at_).bind fun v2 =>
 (s5 v2.Text).bind fun v3 =>
 some (!v3)).bind fun v4 =>
 if v4 then
 (p9 a0).bind fun v5 =>
 some (a1f, v5)
 else
 (l8 a0.l (i64 ((i64 (a0.at_ + 1)) - 1))).bind fun v6 =>
 some (v6.Text, (⟨a0.l, i64 (a0.at_ + 1), a0.end_, a0.bad⟩ : pensionref5_reader))
def a22 (a0 : Int) : Option Int :=
 if (decide (a0 < 0)) then
 some (u64 ((u64 (i64 (-(i64 (a0 + 1))))) + 1))
 else
 some (u64 (a0))
def b8w (v4 : Int × Int) : Option Int :=
 if (decide (v4.1 >= 256)) then
 (d68 .u64 v4.1 8).bind fun v5 =>
 (a8y c2u (IntKind.u8.wrap (v5))).bind fun v6 =>
 some (i64 ((i64 (v4.2 + 8)) + (i64 (v6))))
 else
 (a8y c2u (IntKind.u8.wrap (v4.1))).bind fun v7 =>
 some (i64 (v4.2 + (i64 (v7))))
def b9q (v2 : Int × Int) : Option Int :=
 if (decide (v2.1 >= 65536)) then
 (d68 .u64 v2.1 16).bind fun v3 =>
 joinC b8w (v3, i64 (v2.2 + 16))
 else
 joinC b8w (v2.1, v2.2)
def c08 (a0 : Int) : Option Int :=
 if (decide (a0 >= 4294967296)) then
 (d68 .u64 a0 32).bind fun v1 =>
 joinC b9q (v1, 32)
 else
 joinC b9q (a0, 0)
def b21 (a0 : Int) : Option Int :=
 (c08 a0).bind fun v1 =>
 some (i64 (64 - v1))
def b8s (v21 : Int × Int × Int × Int × Int × Int) : Option (Int × Int) :=
 (d68 .u64 (u64 ((u64 ((u64 (v21.2.2.2.2.1 * 4294967296)) + v21.2.2.1)) - (u64 (v21.2.2.2.2.2 * v21.1)))) v21.2.1).bind fun v22 =>
 some (u64 ((u64 (v21.2.2.2.1 * 4294967296)) + v21.2.2.2.2.2), v22)
def c76 (v16 : Int × Int × Int × Int × Int × Int × Int × Int) (r19 : (Int × Int) -> Option (Int × Int)) (v18 : Int × Int) : Option (Int × Int) :=
 (if (decide (v18.2 >= 4294967296)) then some true else some (decide ((u64 (v18.2 * v16.2.2.2.1)) > (u64 ((u64 (4294967296 * v18.1)) + v16.2.2.2.2.2.2.1))))).bind fun v20 =>
 if v20 then
 if (decide ((u64 (v18.1 + v16.2.2.1)) >= 4294967296)) then
 joinC b8s (v16.1, v16.2.1, v16.2.2.2.2.2.2.1, v16.2.2.2.2.2.2.2, u64 ((u64 ((u64 (v16.2.2.2.2.1 * 4294967296)) + v16.2.2.2.2.2.1)) - (u64 (v16.2.2.2.2.2.2.2 * v16.1))), u64 (v18.2 - 1))
 else
 r19 (u64 (v18.1 + v16.2.2.1), u64 (v18.2 - 1))
 else
 joinC b8s (v16.1, v16.2.1, v16.2.2.2.2.2.2.1, v16.2.2.2.2.2.2.2, u64 ((u64 ((u64 (v16.2.2.2.2.1 * 4294967296)) + v16.2.2.2.2.2.1)) - (u64 (v16.2.2.2.2.2.2.2 * v16.1))), v18.2)
def b9v (v16 : Int × Int × Int × Int × Int × Int × Int × Int) : Option (Int × Int) :=
 (if v16.2.2.1 = 0 then none else some (u64 (Int.tdiv (u64 ((u64 ((u64 (v16.2.2.2.2.1 * 4294967296)) + v16.2.2.2.2.2.1)) - (u64 (v16.2.2.2.2.2.2.2 * v16.1)))) v16.2.2.1))).bind fun v17 =>
 d9 FU (c76 v16) (u64 ((u64 ((u64 ((u64 (v16.2.2.2.2.1 * 4294967296)) + v16.2.2.2.2.2.1)) - (u64 (v16.2.2.2.2.2.2.2 * v16.1)))) - (u64 (v17 * v16.2.2.1))), v17)
def c6f (v6 : Int) (v11 : Int) (v7 : Int) (v5 : Int) (v8 : Int) (v9 : Int) (v10 : Int) (r14 : (Int × Int) -> Option (Int × Int)) (v13 : Int × Int) : Option (Int × Int) :=
 (if (decide (v13.1 >= 4294967296)) then some true else some (decide ((u64 (v13.1 * (e7k .u64 v6 4294967295))) > (u64 ((u64 (4294967296 * v13.2)) + v11))))).bind fun v15 =>
 if v15 then
 if (decide ((u64 (v13.2 + v7)) >= 4294967296)) then
 joinC b9v (v6, u64 (v5), v7, e7k .u64 v6 4294967295, orK .u64 v8 v9, v11, e7k .u64 v10 4294967295, u64 (v13.1 - 1))
 else
 r14 (u64 (v13.1 - 1), u64 (v13.2 + v7))
 else
 joinC b9v (v6, u64 (v5), v7, e7k .u64 v6 4294967295, orK .u64 v8 v9, v11, e7k .u64 v10 4294967295, v13.1)
def b96 (v2 : Int × Int × Int) : Option (Int × Int) :=
 if (v2.1 == 0) then
 (if v2.2.2 = 0 then none else some (u64 (Int.tdiv v2.2.1 v2.2.2))).bind fun v3 =>
 (b2j v2.2.1 v2.2.2).bind fun v4 =>
 some (v3, v4)
 else
 (b21 v2.2.2).bind fun v5 =>
 (f0r .u64 v2.2.2 (u64 (v5))).bind fun v6 =>
 (d68 .u64 v6 32).bind fun v7 =>
 (f0r .u64 v2.1 (u64 (v5))).bind fun v8 =>
 (d68 .u64 v2.2.1 (u64 (64 - (u64 (v5))))).bind fun v9 =>
 (f0r .u64 v2.2.1 (u64 (v5))).bind fun v10 =>
 (d68 .u64 v10 32).bind fun v11 =>
 (if v7 = 0 then none else some (u64 (Int.tdiv (orK .u64 v8 v9) v7))).bind fun v12 =>
 d9 FU (c6f v6 v11 v7 v5 v8 v9 v10) (v12, u64 ((orK .u64 v8 v9) - (u64 (v12 * v7))))
def b9k (v1 : Int × Int × Int) : Option (Int × Int) :=
 if (decide (v1.2.2 <= v1.1)) then
 none
 else
 joinC b96 (v1.1, v1.2.1, v1.2.2)
def b6t (a0 : Int) (a1 : Int) (a2 : Int) : Option (Int × Int) :=
 if (a2 == 0) then
 none
 else
 joinC b9k (a0, a1, a2)
def a2t (a0 : pensionref1_wide) (a1 : Int) : Option (pensionref1_wide × Int) :=
 (b2j a0.hi a1).bind fun v1 =>
 (b6t v1 a0.lo a1).bind fun v2 =>
 (if a1 = 0 then none else some (u64 (Int.tdiv a0.hi a1))).bind fun v3 =>
 some ((⟨v3, v2.1⟩ : pensionref1_wide), v2.2)
def a8r (r2 : (Int × Int) -> Option Int) (v1 : Int × Int) : Option Int :=
 if (v1.2 != 0) then
 (b2j v1.1 v1.2).bind fun v3 =>
 r2 (v1.2, v3)
 else
 some v1.1
def a1m (a0 : Int) (a1 : Int) : Option Int :=
 d9 FU a8r (a0, a1)
def a8k (a0 : Bool) (a1 : pensionref1_wide) (a2 : Int) : Option (Fraction × Int) :=
 (a2t a1 a2).bind fun v1 =>
 (a1m a2 v1.2).bind fun v2 =>
 (a2t a1 v2).bind fun v3 =>
 (if v2 = 0 then none else some (u64 (Int.tdiv a2 v2))).bind fun v4 =>
 (if (v3.1.hi != 0) then some true else some (decide (v3.1.lo > 1000000000000000))).bind fun v5 =>
 (if v5 then some true else some (decide (v4 > 1000000000))).bind fun v6 =>
 if v6 then
 some ((⟨0, 0⟩ : Fraction), 2)
 else
 if a0 then
 some ((⟨i64 (-(i64 (v3.1.lo))), i64 (v4)⟩ : Fraction), 0)
 else
 some ((⟨i64 (v3.1.lo), i64 (v4)⟩ : Fraction), 0)
def a2y (a0 : Int) (a1 : Int) : Option (Fraction × Int) :=
 if (a1 == 0) then
 some ((⟨0, 0⟩ : Fraction), 3)
 else
 (a22 a0).bind fun v1 =>
 (a22 a1).bind fun v2 =>
 (a8k ((decide (a0 < 0)) != (decide (a1 < 0))) (⟨0, v1⟩ : pensionref1_wide) v2).bind fun v3 =>
 some (v3.1, v3.2)
def a28 (v1 : ByteArray × ByteArray × Int × Bool) (r3 : (Fraction × Int × Int × Int) -> Option (Fraction × Int × Bool)) (v2 : Fraction × Int × Int × Int) : Option (Fraction × Int × Bool) :=
 if (decide (v2.2.2.2 < (i64 ((v1.1.size : Int) + (v1.2.1.size : Int))))) then
 (a40 v1.1 v1.2.1).bind fun v4 =>
 (a8y v4 v2.2.2.2).bind fun v5 =>
 if (decide (v2.2.2.2 >= (v1.1.size : Int))) then
 r3 (v2.1, i64 ((i64 (v2.2.1 * 10)) + (i64 (IntKind.u8.wrap (v5 - 48)))), i64 (v2.2.2.1 * 10), i64 (v2.2.2.2 + 1))
 else
 r3 (v2.1, i64 ((i64 (v2.2.1 * 10)) + (i64 (IntKind.u8.wrap (v5 - 48)))), v2.2.2.1, i64 (v2.2.2.2 + 1))
 else
 (a2y v2.2.1 v2.2.2.1).bind fun v6 =>
 some (v6.1, v1.2.2.1, true)
def s6 (a0 : ByteArray) : Option (Fraction × Int × Bool) :=
 (a0a a0).bind fun v1 =>
 if (!v1.2.2.2) then
 some ((⟨0, 0⟩ : Fraction), 0, false)
 else
 d9 FU (a28 v1) ((⟨0, 0⟩ : Fraction), 0, 1, 0)
def s9 (a0 : pensionref5_reader) (a1 : Int) (a2 : Int) : Option (Int × pensionref5_reader) :=
 (s3 a0 2).bind fun v1 =>
 if v1 then
 (l8 a0.l a0.at_).bind fun v2 =>
 (s6 v2.Text).bind fun v3 =>
 (if (v3.2.1 == 2) then some (v3.1.Den == 1) else some false).bind fun v4 =>
 (if v4 then some (decide (v3.1.Num >= a1)) else some false).bind fun v5 =>
 (if v5 then some (decide (v3.1.Num <= a2)) else some false).bind fun v6 =>
 if v6 then
 some (v3.1.Num, (⟨a0.l, i64 (a0.at_ + 1), a0.end_, a0.bad⟩ : pensionref5_reader))
 else
 (p9 a0).bind fun v7 =>
 some (0, v7)
 else
 (p9 a0).bind fun v8 =>
 some (0, v8)
def a4s (a0 : ByteArray) : Option Int :=
 (b5f a0 1 (a0.size : Int)).bind fun v1 =>
 (a1x v1).bind fun v2 =>
 some v2.1
def a7p (a0 : ByteArray) : Option Int :=
 if (a0.toList == a5f.toList) then
 some 6
 else
 if (a0.toList == b20.toList) then
 some 9
 else
 if (a0.toList == a7l.toList) then
 some 7
 else
 if (a0.toList == c79.toList) then
 some 8
 else
 if (a0.toList == b6g.toList) then
 some 10
 else
 if (a0.toList == a8e.toList) then
 some 5
 else
 some 0
def a59 (a0 : ByteArray) : Option Int :=
 if (a0.toList == b7u.toList) then
 some 1
 else
 if (a0.toList == a4l.toList) then
 some 2
 else
 if (a0.toList == b0i.toList) then
 some 3
 else
 if (a0.toList == b3v.toList) then
 some 4
 else
 if (a0.toList == b0c.toList) then
 some 5
 else
 some 0
def a7r (a0 : ByteArray) : Option Int :=
 if (a0.toList == b9i.toList) then
 some 1
 else
 if (a0.toList == c8g.toList) then
 some 2
 else
 if (a0.toList == b8n.toList) then
 some 3
 else
 if (a0.toList == b8r.toList) then
 some 4
 else
 some 0
def a0e (a0 : pensionref5_reader) (a1 : Int) : Option (Int × pensionref5_reader) :=
 (s3 a0 1).bind fun v1 =>
 if v1 then
 (l8 a0.l a0.at_).bind fun v2 =>
 (a7p v2.Text).bind fun v3 =>
 (a59 v2.Text).bind fun v4 =>
 (a7r v2.Text).bind fun v5 =>
 (l8 [v3, v4, v5] (i64 (a1 - 1))).bind fun v6 =>
 (l8 [v3, v4, v5] (i64 (a1 - 1))).bind fun v7 =>
 if (decide (v7 > 0)) then
 some (v7, (⟨a0.l, i64 (a0.at_ + 1), a0.end_, a0.bad⟩ : pensionref5_reader))
 else
 (p9 a0).bind fun v8 =>
 some (0, v8)
 else
 (p9 a0).bind fun v9 =>
 some (0, v9)
def a0k (a0 : Int) : Option Int :=
 (if (decide (a0 >= 1)) then some (decide (a0 <= 3)) else some false).bind fun v1 =>
 if v1 then
 some 0
 else
 (if (decide (a0 >= 4)) then some (decide (a0 <= 6)) else some false).bind fun v2 =>
 if v2 then
 some 1
 else
 (if (decide (a0 >= 7)) then some (decide (a0 <= 20)) else some false).bind fun v3 =>
 if v3 then
 some 2
 else
 if (a0 == 21) then
 some 3
 else
 some (-1 : Int)
def b14 (v2 : Int × Bool) : Option Int :=
 if v2.2 then
 some 5
 else
 if (v2.1 == 9) then
 if (v2.1 == 9) then
 some 6
 else
 some 7
 else
 if (v2.1 == 10) then
 some 6
 else
 some 7
def a1u (v1 : Int × Bool) : Option Int :=
 if v1.2 then
 some 4
 else
 if (v1.1 == 7) then
 joinC b14 (v1.1, v1.1 == 7)
 else
 joinC b14 (v1.1, v1.1 == 8)
def a9k (a0 : Int) : Option Int :=
 if (a0 == 21) then
 some 0
 else
 if (a0 == 18) then
 some 1
 else
 if (a0 == 17) then
 some 2
 else
 if (a0 == 5) then
 some 3
 else
 if (a0 == 11) then
 joinC a1u (a0, a0 == 11)
 else
 if (a0 == 12) then
 joinC a1u (a0, a0 == 12)
 else
 if (a0 == 13) then
 joinC a1u (a0, a0 == 13)
 else
 if (a0 == 14) then
 joinC a1u (a0, a0 == 14)
 else
 if (a0 == 15) then
 joinC a1u (a0, a0 == 15)
 else
 joinC a1u (a0, a0 == 16)
def a8o (a0 : Int) : Option ByteArray :=
 if (a0 == 7) then
 some c5t
 else
 if (a0 == 8) then
 some b6h
 else
 if (a0 == 9) then
 some a7c
 else
 if (a0 == 10) then
 some b7t
 else
 if (a0 == 11) then
 some c7g
 else
 if (a0 == 12) then
 some b40
 else
 if (a0 == 13) then
 some b5y
 else
 if (a0 == 14) then
 some b3z
 else
 if (a0 == 15) then
 some d11
 else
 if (a0 == 16) then
 some a4v
 else
 if (a0 == 17) then
 some b69
 else
 some c2f
def y2 (a1 : Int) (a0 : pensionref5_reader) (r2 : Int -> Option Int) (v1 : Int) : Option Int :=
 if (decide (v1 <= 18)) then
 (a9k v1).bind fun v3 =>
 (if (v3 == a1) then (a8o v1).bind fun v4 =>
 (a03 a0 v4).bind fun v5 =>
 some v5 else some false).bind fun v6 =>
 if v6 then
 some v1
 else
 r2 (i64 (v1 + 1))
 else
 some 0
def a2p (a0 : pensionref5_reader) (a1 : Int) : Option Int :=
 d9 FU (y2 a1 a0) 7
structure Ring_pensionref5_reader_expr where
  f_pensionref5_reader_expr : pensionref5_reader -> Int -> Option (Expr × pensionref5_reader)
  f_pensionref5_reader_factor : pensionref5_reader -> Option (Expr × pensionref5_reader)
  f_pensionref5_reader_call : pensionref5_reader -> Int -> Option (Expr × pensionref5_reader)
def u5 (R : Ring_pensionref5_reader_expr) (a1 : Int) (r14 : (pensionref5_reader × (List Expr) × Expr × Expr) -> Option (Expr × pensionref5_reader)) (v13 : pensionref5_reader × (List Expr) × Expr × Expr) : Option (Expr × pensionref5_reader) :=
 if (!v13.1.bad) then
 (a2p v13.1 a1).bind fun v15 =>
 if (v15 == 0) then
 some (v13.2.2.2, v13.1)
 else
 (R.f_pensionref5_reader_expr (⟨v13.1.l, i64 (v13.1.at_ + 1), v13.1.end_, v13.1.bad⟩ : pensionref5_reader) (i64 (a1 + 1))).bind fun v16 =>
 if (a1 == 4) then
 some ((⟨v15, (⟨0, 0⟩ : Fraction), 0, a1f, [v13.2.2.2, v16.1]⟩ : Expr), v16.2)
 else
 r14 (v16.2, v13.2.1, (⟨v13.2.2.1.Op, v13.2.2.1.Value, v13.2.2.1.Dim, v13.2.2.1.Name, []⟩ : Expr), (⟨v15, (⟨0, 0⟩ : Fraction), 0, a1f, [v13.2.2.2, v16.1]⟩ : Expr))
 else
 some (v13.2.2.2, v13.1)
def k9 (R : Ring_pensionref5_reader_expr) (a0 : pensionref5_reader) (a1 : Int) : Option (Expr × pensionref5_reader) :=
 if a0.bad then
 some ((⟨0, (⟨0, 0⟩ : Fraction), 0, a1f, []⟩ : Expr), a0)
 else
 if (a1 == 0) then
 (d8 a0 a9b).bind fun v1 =>
 if (!v1.1) then
 (R.f_pensionref5_reader_expr v1.2 1).bind fun v2 =>
 some (v2.1, v2.2)
 else
 (R.f_pensionref5_reader_expr v1.2 0).bind fun v3 =>
 (c6 v3.2 b6m).bind fun v4 =>
 (R.f_pensionref5_reader_expr v4 0).bind fun v5 =>
 (c6 v5.2 b2w).bind fun v6 =>
 (R.f_pensionref5_reader_expr v6 0).bind fun v7 =>
 some ((⟨21, (⟨0, 0⟩ : Fraction), 0, a1f, [v3.1, v5.1, v7.1]⟩ : Expr), v7.2)
 else
 if (a1 == 3) then
 (d8 a0 b6d).bind fun v8 =>
 if v8.1 then
 (R.f_pensionref5_reader_expr v8.2 3).bind fun v9 =>
 some ((⟨5, (⟨0, 0⟩ : Fraction), 0, a1f, [v9.1]⟩ : Expr), v9.2)
 else
 (R.f_pensionref5_reader_expr v8.2 4).bind fun v10 =>
 some (v10.1, v10.2)
 else
 if (a1 == 7) then
 (R.f_pensionref5_reader_factor a0).bind fun v11 =>
 some (v11.1, v11.2)
 else
 (R.f_pensionref5_reader_expr a0 (i64 (a1 + 1))).bind fun v12 =>
 d9 FU (u5 R a1) (v12.2, [], (⟨0, (⟨0, 0⟩ : Fraction), 0, a1f, []⟩ : Expr), v12.1)
def k7 (R : Ring_pensionref5_reader_expr) (a0 : pensionref5_reader) : Option (Expr × pensionref5_reader) :=
 (s3 a0 2).bind fun v1 =>
 if v1 then
 (l8 a0.l a0.at_).bind fun v2 =>
 (s6 v2.Text).bind fun v3 =>
 some ((⟨1, v3.1, v3.2.1, a1f, []⟩ : Expr), (⟨a0.l, i64 (a0.at_ + 1), a0.end_, a0.bad⟩ : pensionref5_reader))
 else
 (d8 a0 b6h).bind fun v4 =>
 if v4.1 then
 (R.f_pensionref5_reader_expr v4.2 7).bind fun v5 =>
 some ((⟨4, (⟨0, 0⟩ : Fraction), 0, a1f, [v5.1]⟩ : Expr), v5.2)
 else
 (d8 v4.2 a7w).bind fun v6 =>
 if v6.1 then
 (R.f_pensionref5_reader_expr v6.2 0).bind fun v7 =>
 (c6 v7.2 a9p).bind fun v8 =>
 some (v7.1, v8)
 else
 (d8 v6.2 b01).bind fun v9 =>
 if v9.1 then
 (c6 v9.2 a7w).bind fun v10 =>
 (s9 v10 1 45).bind fun v11 =>
 (c6 v11.2 a9p).bind fun v12 =>
 some ((⟨3, (⟨v11.1, 1⟩ : Fraction), 0, a1f, []⟩ : Expr), v12)
 else
 (a03 v9.2 b0a).bind fun v13 =>
 if v13 then
 (R.f_pensionref5_reader_call v9.2 6).bind fun v14 =>
 some (v14.1, v14.2)
 else
 (a03 v9.2 b4t).bind fun v15 =>
 if v15 then
 (R.f_pensionref5_reader_call v9.2 19).bind fun v16 =>
 some (v16.1, v16.2)
 else
 (a03 v9.2 b3m).bind fun v17 =>
 if v17 then
 (R.f_pensionref5_reader_call v9.2 20).bind fun v18 =>
 some (v18.1, v18.2)
 else
 (a0r v9.2).bind fun v19 =>
 some ((⟨2, (⟨0, 0⟩ : Fraction), 0, v19.1, []⟩ : Expr), v19.2)
def a2o (R : Ring_pensionref5_reader_expr) (a0 : pensionref5_reader) (a1 : Int) : Option (Expr × pensionref5_reader) :=
 (c6 (⟨a0.l, i64 (a0.at_ + 1), a0.end_, a0.bad⟩ : pensionref5_reader) a7w).bind fun v1 =>
 (R.f_pensionref5_reader_expr v1 0).bind fun v2 =>
 (a0k a1).bind fun v3 =>
 if (v3 == 2) then
 (c6 v2.2 c09).bind fun v4 =>
 (l8 [v2.1] 0).bind fun v5 =>
 (R.f_pensionref5_reader_expr v4 0).bind fun v6 =>
 (c6 v6.2 a9p).bind fun v7 =>
 some ((⟨a1, (⟨0, 0⟩ : Fraction), 0, a1f, [v5, v6.1]⟩ : Expr), v7)
 else
 (c6 v2.2 a9p).bind fun v8 =>
 some ((⟨a1, (⟨0, 0⟩ : Fraction), 0, a1f, [v2.1]⟩ : Expr), v8)
def c9 : Nat -> Ring_pensionref5_reader_expr
  | 0 => ⟨fun _ _ => none, fun _ => none, fun _ _ => none⟩
  | n + 1 => ⟨k9 (c9 n), k7 (c9 n), a2o (c9 n)⟩
def a1i (a0 : pensionref5_reader) (a1 : Int) : Option (Expr × pensionref5_reader) := (c9 FU).f_pensionref5_reader_expr a0 a1
def a1d (v5 : pensionref5_reader × (List Credit) × (List Index) × (List Let) × (List Grant) × (List Reduce) × Version × Credit) : Option (pensionref5_reader × Version × (List Credit) × (List Index) × (List Let) × (List Grant) × (List Reduce)) :=
 (a8w 16 v5.2.1 [v5.2.2.2.2.2.2.2]).bind fun v6 =>
 (c6 v5.1 a07).bind fun v7 =>
 some (v7, (⟨v5.2.2.2.2.2.2.1.From, v5.2.2.2.2.2.2.1.Rounding, [], [], [], [], []⟩ : Version), v6, v5.2.2.1, v5.2.2.2.1, v5.2.2.2.2.1, v5.2.2.2.2.2.1)
def a3g (v16 : pensionref5_reader × (List Credit) × (List Index) × (List Let) × (List Grant) × (List Reduce) × Version × Index) : Option (pensionref5_reader × Version × (List Credit) × (List Index) × (List Let) × (List Grant) × (List Reduce)) :=
 (a8w 24 v16.2.2.1 [v16.2.2.2.2.2.2.2]).bind fun v17 =>
 (c6 v16.1 a07).bind fun v18 =>
 some (v18, (⟨v16.2.2.2.2.2.2.1.From, v16.2.2.2.2.2.2.1.Rounding, [], [], [], [], []⟩ : Version), v16.2.1, v17, v16.2.2.2.1, v16.2.2.2.2.1, v16.2.2.2.2.2.1)
def a1e (v14 : pensionref5_reader × (List Credit) × (List Index) × (List Let) × (List Grant) × (List Reduce) × Version × Index) : Option (pensionref5_reader × Version × (List Credit) × (List Index) × (List Let) × (List Grant) × (List Reduce)) :=
 if (v14.2.2.2.2.2.2.2.Factor.Den == 0) then
 (p9 v14.1).bind fun v15 =>
 joinC a3g (v15, v14.2.1, v14.2.2.1, v14.2.2.2.1, v14.2.2.2.2.1, v14.2.2.2.2.2.1, (⟨v14.2.2.2.2.2.2.1.From, v14.2.2.2.2.2.2.1.Rounding, [], [], [], [], []⟩ : Version), v14.2.2.2.2.2.2.2)
 else
 joinC a3g (v14.1, v14.2.1, v14.2.2.1, v14.2.2.2.1, v14.2.2.2.2.1, v14.2.2.2.2.2.1, (⟨v14.2.2.2.2.2.2.1.From, v14.2.2.2.2.2.2.1.Rounding, [], [], [], [], []⟩ : Version), v14.2.2.2.2.2.2.2)
def a2l (a0 : pensionref5_reader) (a1 : Version) (a2 : List Credit) (a3 : List Index) (a4 : List Let) (a5 : List Grant) (a6 : List Reduce) : Option (pensionref5_reader × Version × (List Credit) × (List Index) × (List Let) × (List Grant) × (List Reduce)) :=
 (d8 a0 a1w).bind fun v1 =>
 if v1.1 then
 (a0e v1.2 1).bind fun v2 =>
 (d8 v2.2 a7j).bind fun v3 =>
 if v3.1 then
 (s9 v3.2 1 73049).bind fun v4 =>
 joinC a1d (v4.2, a2, a3, a4, a5, a6, (⟨a1.From, a1.Rounding, [], [], [], [], []⟩ : Version), (⟨v2.1, v4.1⟩ : Credit))
 else
 joinC a1d (v3.2, a2, a3, a4, a5, a6, (⟨a1.From, a1.Rounding, [], [], [], [], []⟩ : Version), (⟨v2.1, 0⟩ : Credit))
 else
 (d8 v1.2 a4g).bind fun v8 =>
 if v8.1 then
 (s9 v8.2 1900 2099).bind fun v9 =>
 (s3 v9.2 2).bind fun v10 =>
 if v10 then
 (l8 v9.2.l v9.2.at_).bind fun v11 =>
 (s6 v11.Text).bind fun v12 =>
 (if (v12.2.1 == 2) then some (decide (v12.1.Num > 0)) else some false).bind fun v13 =>
 if v13 then
 joinC a1e ((⟨v9.2.l, i64 (v9.2.at_ + 1), v9.2.end_, v9.2.bad⟩ : pensionref5_reader), a2, a3, a4, a5, a6, (⟨a1.From, a1.Rounding, [], [], [], [], []⟩ : Version), (⟨v9.1, v12.1⟩ : Index))
 else
 joinC a1e (v9.2, a2, a3, a4, a5, a6, (⟨a1.From, a1.Rounding, [], [], [], [], []⟩ : Version), (⟨v9.1, (⟨0, 0⟩ : Fraction)⟩ : Index))
 else
 joinC a1e (v9.2, a2, a3, a4, a5, a6, (⟨a1.From, a1.Rounding, [], [], [], [], []⟩ : Version), (⟨v9.1, (⟨0, 0⟩ : Fraction)⟩ : Index))
 else
 (d8 v8.2 a9m).bind fun v19 =>
 if v19.1 then
 (a0r v19.2).bind fun v20 =>
 (c6 v20.2 b5y).bind fun v21 =>
 (a1i v21 0).bind fun v22 =>
 (a8w 88 a4 [(⟨v20.1, v22.1⟩ : Let)]).bind fun v23 =>
 (c6 v22.2 a07).bind fun v24 =>
 some (v24, (⟨a1.From, a1.Rounding, [], [], [], [], []⟩ : Version), a2, a3, v23, a5, a6)
 else
 (d8 v19.2 a35).bind fun v25 =>
 if v25.1 then
 (a0e v25.2 2).bind fun v26 =>
 (c6 v26.2 a9b).bind fun v27 =>
 (a1i v27 0).bind fun v28 =>
 (c6 v28.2 b0s).bind fun v29 =>
 (a1i v29 0).bind fun v30 =>
 (a8w 152 a5 [(⟨v26.1, v28.1, v30.1⟩ : Grant)]).bind fun v31 =>
 (c6 v30.2 a07).bind fun v32 =>
 some (v32, (⟨a1.From, a1.Rounding, [], [], [], [], []⟩ : Version), a2, a3, a4, v31, a6)
 else
 (d8 v25.2 a3n).bind fun v33 =>
 if v33.1 then
 (a0e v33.2 2).bind fun v34 =>
 (c6 v34.2 b9x).bind fun v35 =>
 (a1i v35 0).bind fun v36 =>
 (a8w 80 a6 [(⟨v34.1, v36.1⟩ : Reduce)]).bind fun v37 =>
 (c6 v36.2 a07).bind fun v38 =>
 some (v38, (⟨a1.From, a1.Rounding, [], [], [], [], []⟩ : Version), a2, a3, a4, a5, v37)
 else
 (p9 v33.2).bind fun v39 =>
 (c6 v39 a07).bind fun v40 =>
 some (v40, (⟨a1.From, a1.Rounding, [], [], [], [], []⟩ : Version), a2, a3, a4, a5, a6)
def a08 (r12 : (pensionref5_reader × (List Credit) × (List Index) × (List Let) × (List Grant) × (List Reduce) × Version × (List Credit) × (List Index) × (List Let) × (List Grant) × (List Reduce) × Version) -> Option (Version × pensionref5_reader)) (v11 : pensionref5_reader × (List Credit) × (List Index) × (List Let) × (List Grant) × (List Reduce) × Version × (List Credit) × (List Index) × (List Let) × (List Grant) × (List Reduce) × Version) : Option (Version × pensionref5_reader) :=
 if (!v11.1.bad) then
 (d8 v11.1 a2i).bind fun v13 =>
 if (!v13.1) then
 (a2l v13.2 (⟨v11.2.2.2.2.2.2.2.2.2.2.2.2.From, v11.2.2.2.2.2.2.2.2.2.2.2.2.Rounding, [], [], [], [], []⟩ : Version) v11.2.2.2.2.2.2.2.1 v11.2.2.2.2.2.2.2.2.1 v11.2.2.2.2.2.2.2.2.2.1 v11.2.2.2.2.2.2.2.2.2.2.1 v11.2.2.2.2.2.2.2.2.2.2.2.1).bind fun v14 =>
 r12 (v14.1, v11.2.1, v11.2.2.1, v11.2.2.2.1, v11.2.2.2.2.1, v11.2.2.2.2.2.1, (⟨v11.2.2.2.2.2.2.1.From, v11.2.2.2.2.2.2.1.Rounding, [], [], [], [], []⟩ : Version), v14.2.2.1, v14.2.2.2.1, v14.2.2.2.2.1, v14.2.2.2.2.2.1, v14.2.2.2.2.2.2, (⟨v14.2.1.From, v14.2.1.Rounding, [], [], [], [], []⟩ : Version))
 else
 some ((⟨v11.2.2.2.2.2.2.2.2.2.2.2.2.From, v11.2.2.2.2.2.2.2.2.2.2.2.2.Rounding, v11.2.2.2.2.2.2.2.1, v11.2.2.2.2.2.2.2.2.1, v11.2.2.2.2.2.2.2.2.2.1, v11.2.2.2.2.2.2.2.2.2.2.1, v11.2.2.2.2.2.2.2.2.2.2.2.1⟩ : Version), v13.2)
 else
 some ((⟨v11.2.2.2.2.2.2.2.2.2.2.2.2.From, v11.2.2.2.2.2.2.2.2.2.2.2.2.Rounding, v11.2.2.2.2.2.2.2.1, v11.2.2.2.2.2.2.2.2.1, v11.2.2.2.2.2.2.2.2.2.1, v11.2.2.2.2.2.2.2.2.2.2.1, v11.2.2.2.2.2.2.2.2.2.2.2.1⟩ : Version), v11.1)
def a30 (v5 : pensionref5_reader × (List Credit) × (List Index) × (List Let) × (List Grant) × (List Reduce) × Version × (List Credit) × (List Index) × (List Let) × (List Grant) × (List Reduce) × Version) : Option (Version × pensionref5_reader) :=
 (c6 v5.1 b2b).bind fun v6 =>
 (c6 v6 b0g).bind fun v7 =>
 (a0e v7 3).bind fun v8 =>
 (s9 v8.2 1 100000).bind fun v9 =>
 (c6 v9.2 a07).bind fun v10 =>
 d9 FU a08 (v10, v5.2.1, v5.2.2.1, v5.2.2.2.1, v5.2.2.2.2.1, v5.2.2.2.2.2.1, (⟨v5.2.2.2.2.2.2.1.From, v5.2.2.2.2.2.2.1.Rounding, [], [], [], [], []⟩ : Version), v5.2.2.2.2.2.2.2.1, v5.2.2.2.2.2.2.2.2.1, v5.2.2.2.2.2.2.2.2.2.1, v5.2.2.2.2.2.2.2.2.2.2.1, v5.2.2.2.2.2.2.2.2.2.2.2.1, (⟨v5.2.2.2.2.2.2.2.2.2.2.2.2.From, (⟨v8.1, v9.1⟩ : Rounding), [], [], [], [], []⟩ : Version))
def a26 (a0 : pensionref5_reader) : Option (Version × pensionref5_reader) :=
 (c6 a0 b2t).bind fun v1 =>
 (s3 v1 3).bind fun v2 =>
 if v2 then
 (l8 v1.l v1.at_).bind fun v3 =>
 (a4s v3.Text).bind fun v4 =>
 joinC a30 ((⟨v1.l, i64 (v1.at_ + 1), v1.end_, v1.bad⟩ : pensionref5_reader), [], [], [], [], [], (⟨0, (⟨0, 0⟩ : Rounding), [], [], [], [], []⟩ : Version), [], [], [], [], [], (⟨v4, (⟨0, 0⟩ : Rounding), [], [], [], [], []⟩ : Version))
 else
 (p9 v1).bind fun v15 =>
 joinC a30 (v15, [], [], [], [], [], (⟨0, (⟨0, 0⟩ : Rounding), [], [], [], [], []⟩ : Version), [], [], [], [], [], (⟨0, (⟨0, 0⟩ : Rounding), [], [], [], [], []⟩ : Version))
def a7z (a0 : pensionref5_reader) : Option Int :=
 if (decide (a0.at_ < (a0.l.length : Int))) then
 (l8 a0.l a0.at_).bind fun v1 =>
 some v1.At
 else
 some a0.end_
def a1v (a0 : Int) : Option Bool :=
 (if (decide (a0 >= 0)) then some (decide (a0 <= 73048)) else some false).bind fun v1 =>
 some v1
def a4m (a0 : Rounding) : Option Bool :=
 (if (decide (a0.Mode >= 1)) then some (decide (a0.Mode <= 4)) else some false).bind fun v1 =>
 (if v1 then some (decide (a0.Unit >= 1)) else some false).bind fun v2 =>
 (if v2 then some (decide (a0.Unit <= 100000)) else some false).bind fun v3 =>
 some v3
def b68 (a0 : Int) (a1 : Int) (r2 : ((List ByteArray) × Int) -> Option ByteArray) (v1 : (List ByteArray) × Int) : Option ByteArray :=
 (if (decide (v1.2 < (v1.1.length : Int))) then some (decide (a0 > 0)) else some false).bind fun v3 =>
 if v3 then
 (if (a1 == 1) then (l8 v1.1 v1.2).bind fun v4 =>
 (l8 v1.1 v1.2).bind fun v5 =>
 (a7p v5).bind fun v6 =>
 some (v6 == a0) else some false).bind fun v7 =>
 (if v7 then some true else (if (a1 == 2) then (l8 v1.1 v1.2).bind fun v8 =>
 (l8 v1.1 v1.2).bind fun v9 =>
 (a59 v9).bind fun v10 =>
 some (v10 == a0) else some false).bind fun v11 =>
 some v11).bind fun v12 =>
 (if v12 then some true else (if (a1 == 3) then (l8 v1.1 v1.2).bind fun v13 =>
 (l8 v1.1 v1.2).bind fun v14 =>
 (a7r v14).bind fun v15 =>
 some (v15 == a0) else some false).bind fun v16 =>
 some v16).bind fun v17 =>
 if v17 then
 (l8 v1.1 v1.2).bind fun v18 =>
 (l8 v1.1 v1.2).bind fun v19 =>
 some v19
 else
 r2 (v1.1, i64 (v1.2 + 1))
 else
 some a1f
def a2v (a0 : Int) (a1 : Int) : Option ByteArray :=
 d9 FU (b68 a0 a1) ([a5f, b20, a7l, c79, b6g, a8e, b7u, a4l, b0i, b3v, b0c, b9i, c8g, b8n, b8r], 0)
def w8 (a0 : Fraction) : Option Bool :=
 (if (decide (a0.Den >= 1)) then some (decide (a0.Den <= 1000000000)) else some false).bind fun v1 =>
 (if v1 then some (decide (a0.Num >= (-1000000000000000 : Int))) else some false).bind fun v2 =>
 (if v2 then some (decide (a0.Num <= 1000000000000000)) else some false).bind fun v3 =>
 (if v3 then (a22 a0.Num).bind fun v4 =>
 (a1m v4 (u64 (a0.Den))).bind fun v5 =>
 some (v5 == 1) else some false).bind fun v6 =>
 some v6
def b07 (a1 : Int) (r2 : (Int × ByteArray) -> Option ByteArray) (v1 : Int × ByteArray) : Option ByteArray :=
 (if (decide (v1.1 > 0)) then some true else some (decide ((v1.2.size : Int) < a1))).bind fun v3 =>
 if v3 then
 (b2j v1.1 10).bind fun v4 =>
 (b2j v1.1 10).bind fun v5 =>
 (b5f a3k v4 (i64 (v5 + 1))).bind fun v6 =>
 (a40 v6 v1.2).bind fun v7 =>
 (b5i v1.1 10).bind fun v8 =>
 r2 (v8, v7)
 else
 some v1.2
def a4c (a0 : Int) (a1 : Int) : Option ByteArray :=
 d9 FU (b07 a1) (a0, a1f)
def a31 (v5 : Fraction × ByteArray) : Option ByteArray :=
 if (v5.1.Den != 1) then
 (a40 v5.2 b7t).bind fun v6 =>
 (a4c v5.1.Den 1).bind fun v7 =>
 (a40 v6 v7).bind fun v8 =>
 some v8
 else
 some v5.2
def a25 (a0 : Fraction) : Option ByteArray :=
 (w8 a0).bind fun v1 =>
 if (!v1) then
 some a1f
 else
 (a22 a0.Num).bind fun v2 =>
 (a4c (i64 (v2)) 1).bind fun v3 =>
 if (decide (a0.Num < 0)) then
 (a40 b6h v3).bind fun v4 =>
 joinC a31 (a0, v4)
 else
 joinC a31 (a0, v3)
def a65 (v11 : Int × ByteArray × Int) (r13 : (ByteArray × Int × Int) -> Option (ByteArray × Bool)) (v12 : ByteArray × Int × Int) : Option (ByteArray × Bool) :=
 if (decide (v12.2.1 > 0)) then
 (b5i v12.2.1 v12.2.2).bind fun v14 =>
 (b5i v12.2.1 v12.2.2).bind fun v15 =>
 (b5f a3k v14 (i64 (v15 + 1))).bind fun v16 =>
 (a40 v12.1 v16).bind fun v17 =>
 (b2j v12.2.1 v12.2.2).bind fun v18 =>
 (b5i v12.2.2 10).bind fun v19 =>
 r13 (v17, v18, v19)
 else
 (l8 [a1f, e1v, e4m] (i64 (v11.1 - 2))).bind fun v20 =>
 (l8 [a1f, e1v, e4m] (i64 (v11.1 - 2))).bind fun v21 =>
 (a40 v12.1 v21).bind fun v22 =>
 some (v22, true)
def a3f (v11 : Int × ByteArray × Int) : Option (ByteArray × Bool) :=
 d9 FU (a65 v11) (v11.2.1, v11.2.2, 1000)
def p8 (a0 : Fraction) (a1 : Int) : Option (ByteArray × Bool) :=
 (w8 a0).bind fun v1 =>
 (if (!v1) then some true else some (decide (a0.Num < 0))).bind fun v2 =>
 (if v2 then some true else (b2j 10000 a0.Den).bind fun v3 =>
 some (v3 != 0)).bind fun v4 =>
 (if v4 then some true else some (decide (a1 < 2))).bind fun v5 =>
 (if v5 then some true else some (decide (a1 > 4))).bind fun v6 =>
 if v6 then
 some (a1f, false)
 else
 (b5i a0.Num a0.Den).bind fun v7 =>
 if (decide (v7 > 999999999)) then
 some (a1f, false)
 else
 (a25 (⟨v7, 1⟩ : Fraction)).bind fun v8 =>
 (b5i 10000 a0.Den).bind fun v9 =>
 if (decide ((i64 ((i64 (a0.Num - (i64 (v7 * a0.Den)))) * v9)) > 0)) then
 (a40 v8 a8a).bind fun v10 =>
 joinC a3f (a1, v10, i64 ((i64 (a0.Num - (i64 (v7 * a0.Den)))) * v9))
 else
 joinC a3f (a1, v8, i64 ((i64 (a0.Num - (i64 (v7 * a0.Den)))) * v9))
structure Ring_pensionref5_Depth where
  f_pensionref5_Depth : Expr -> Option Int
def a7e (R : Ring_pensionref5_Depth) (r2 : (Expr × Int × Int) -> Option Int) (v1 : Expr × Int × Int) : Option Int :=
 if (decide (v1.2.2 < (v1.1.Args.length : Int))) then
 (l8 v1.1.Args v1.2.2).bind fun v3 =>
 (R.f_pensionref5_Depth v3).bind fun v4 =>
 r2 (v1.1, max v1.2.1 v4, i64 (v1.2.2 + 1))
 else
 some (i64 (v1.2.1 + 1))
def a57 (R : Ring_pensionref5_Depth) (a0 : Expr) : Option Int :=
 d9 FU (a7e R) (a0, 0, 0)
def y4 : Nat -> Ring_pensionref5_Depth
  | 0 => ⟨fun _ => none⟩
  | n + 1 => ⟨a57 (y4 n)⟩
def b3r (a0 : Expr) : Option Int := (y4 FU).f_pensionref5_Depth a0
structure Ring_pensionref5_Size where
  f_pensionref5_Size : Expr -> Option Int
def a7t (R : Ring_pensionref5_Size) (r2 : (Expr × Int × Int) -> Option Int) (v1 : Expr × Int × Int) : Option Int :=
 if (decide (v1.2.2 < (v1.1.Args.length : Int))) then
 (l8 v1.1.Args v1.2.2).bind fun v3 =>
 (R.f_pensionref5_Size v3).bind fun v4 =>
 r2 (v1.1, i64 (v1.2.1 + v4), i64 (v1.2.2 + 1))
 else
 some v1.2.1
def a66 (R : Ring_pensionref5_Size) (a0 : Expr) : Option Int :=
 d9 FU (a7t R) (a0, 1, 0)
def a01 : Nat -> Ring_pensionref5_Size
  | 0 => ⟨fun _ => none⟩
  | n + 1 => ⟨a66 (a01 n)⟩
def b5e (a0 : Expr) : Option Int := (a01 FU).f_pensionref5_Size a0
structure Ring_pensionref5_formed where
  f_pensionref5_formed : Expr -> Option Bool
def a4e (R : Ring_pensionref5_formed) (v3 : Bool) (r14 : (Expr × Int) -> Option Bool) (v13 : Expr × Int) : Option Bool :=
 if (decide (v13.2 < (v13.1.Args.length : Int))) then
 (l8 v13.1.Args v13.2).bind fun v15 =>
 (R.f_pensionref5_formed v15).bind fun v16 =>
 if (!v16) then
 some false
 else
 r14 (v13.1, i64 (v13.2 + 1))
 else
 some v3
def p3 (R : Ring_pensionref5_formed) (a0 : Expr) : Option Bool :=
 (a0k a0.Op).bind fun v1 =>
 if ((a0.Args.length : Int) != v1) then
 some false
 else
 (if ((a0.Value.Num == 0) && ((a0.Value.Den == 0) && (true))) then some (a0.Dim == 0) else some false).bind fun v2 =>
 (if v2 then some (a0.Name.toList == a1f.toList) else some false).bind fun v3 =>
 if (a0.Op == 1) then
 (p8 a0.Value a0.Dim).bind fun v4 =>
 (if v4.2 then some (a0.Name.toList == a1f.toList) else some false).bind fun v5 =>
 some v5
 else
 if (a0.Op == 2) then
 (if ((a0.Value.Num == 0) && ((a0.Value.Den == 0) && (true))) then some (a0.Dim == 0) else some false).bind fun v6 =>
 (if v6 then (s5 a0.Name).bind fun v7 =>
 some v7 else some false).bind fun v8 =>
 some v8
 else
 if (a0.Op == 3) then
 (if (a0.Dim == 0) then some (a0.Name.toList == a1f.toList) else some false).bind fun v9 =>
 (if v9 then some (a0.Value.Den == 1) else some false).bind fun v10 =>
 (if v10 then some (decide (a0.Value.Num >= 1)) else some false).bind fun v11 =>
 (if v11 then some (decide (a0.Value.Num <= 45)) else some false).bind fun v12 =>
 some v12
 else
 d9 FU (a4e R v3) (a0, 0)
def i7 : Nat -> Ring_pensionref5_formed
  | 0 => ⟨fun _ => none⟩
  | n + 1 => ⟨p3 (i7 n)⟩
def b31 (a0 : Expr) : Option Bool := (i7 FU).f_pensionref5_formed a0
def u9 (a0 : Expr) : Option Bool :=
 (b3r a0).bind fun v1 =>
 (if (decide (v1 <= 10)) then (b5e a0).bind fun v2 =>
 some (decide (v2 <= 60)) else some false).bind fun v3 =>
 (if v3 then (b31 a0).bind fun v4 =>
 some v4 else some false).bind fun v5 =>
 some v5
def a1n (r45 : (Version × Int) -> Option Bool) (v44 : Version × Int) : Option Bool :=
 if (decide (v44.2 < (v44.1.Reduces.length : Int))) then
 (l8 v44.1.Reduces v44.2).bind fun v46 =>
 (a2v v46.Benefit 2).bind fun v47 =>
 (if (v47.toList == a1f.toList) then some true else (l8 v44.1.Reduces v44.2).bind fun v48 =>
 (u9 v48.By).bind fun v49 =>
 some (!v49)).bind fun v50 =>
 if v50 then
 some false
 else
 r45 (v44.1, i64 (v44.2 + 1))
 else
 some true
def a1g (r35 : (Version × Int) -> Option Bool) (v34 : Version × Int) : Option Bool :=
 if (decide (v34.2 < (v34.1.Grants.length : Int))) then
 (l8 v34.1.Grants v34.2).bind fun v36 =>
 (a2v v36.Benefit 2).bind fun v37 =>
 (if (v37.toList == a1f.toList) then some true else (l8 v34.1.Grants v34.2).bind fun v38 =>
 (u9 v38.If).bind fun v39 =>
 some (!v39)).bind fun v40 =>
 (if v40 then some true else (l8 v34.1.Grants v34.2).bind fun v41 =>
 (u9 v41.Pay).bind fun v42 =>
 some (!v42)).bind fun v43 =>
 if v43 then
 some false
 else
 r35 (v34.1, i64 (v34.2 + 1))
 else
 d9 FU a1n (v34.1, 0)
def a1q (r28 : (Version × Int) -> Option Bool) (v27 : Version × Int) : Option Bool :=
 if (decide (v27.2 < (v27.1.Lets.length : Int))) then
 (l8 v27.1.Lets v27.2).bind fun v29 =>
 (s5 v29.Name).bind fun v30 =>
 (if (!v30) then some true else (l8 v27.1.Lets v27.2).bind fun v31 =>
 (u9 v31.Body).bind fun v32 =>
 some (!v32)).bind fun v33 =>
 if v33 then
 some false
 else
 r28 (v27.1, i64 (v27.2 + 1))
 else
 d9 FU a1g (v27.1, 0)
def a1p (r18 : (Version × Int) -> Option Bool) (v17 : Version × Int) : Option Bool :=
 if (decide (v17.2 < (v17.1.Series.length : Int))) then
 (l8 v17.1.Series v17.2).bind fun v19 =>
 (p8 v19.Factor 2).bind fun v20 =>
 (l8 v17.1.Series v17.2).bind fun v21 =>
 (if (decide (v21.Year < 1900)) then some true else (l8 v17.1.Series v17.2).bind fun v22 =>
 some (decide (v22.Year > 2099))).bind fun v23 =>
 (if v23 then some true else some (!v20.2)).bind fun v24 =>
 (if v24 then some true else (l8 v17.1.Series v17.2).bind fun v25 =>
 some (decide (v25.Factor.Num < 1))).bind fun v26 =>
 if v26 then
 some false
 else
 r18 (v17.1, i64 (v17.2 + 1))
 else
 d9 FU a1q (v17.1, 0)
def a1h (r10 : (Version × Int) -> Option Bool) (v9 : Version × Int) : Option Bool :=
 if (decide (v9.2 < (v9.1.Credits.length : Int))) then
 (l8 v9.1.Credits v9.2).bind fun v11 =>
 (a2v v11.Kind 1).bind fun v12 =>
 (if (v12.toList == a1f.toList) then some true else (l8 v9.1.Credits v9.2).bind fun v13 =>
 some (decide (v13.Limit < 0))).bind fun v14 =>
 (if v14 then some true else (l8 v9.1.Credits v9.2).bind fun v15 =>
 some (decide (v15.Limit > 73049))).bind fun v16 =>
 if v16 then
 some false
 else
 r10 (v9.1, i64 (v9.2 + 1))
 else
 d9 FU a1p (v9.1, 0)
def a2x (a0 : Version) : Option Bool :=
 (a1v a0.From).bind fun v1 =>
 (if (!v1) then some true else (a4m a0.Rounding).bind fun v2 =>
 some (!v2)).bind fun v3 =>
 (if v3 then some true else some (decide ((a0.Credits.length : Int) > 6))).bind fun v4 =>
 (if v4 then some true else some (decide ((a0.Series.length : Int) > 20))).bind fun v5 =>
 (if v5 then some true else some (decide ((a0.Lets.length : Int) > 10))).bind fun v6 =>
 (if v6 then some true else some (decide ((a0.Grants.length : Int) > 5))).bind fun v7 =>
 (if v7 then some true else some (decide ((a0.Reduces.length : Int) > 5))).bind fun v8 =>
 if v8 then
 some false
 else
 d9 FU a1h (a0, 0)
def a4p (r7 : (Statute × Int) -> Option Bool) (v6 : Statute × Int) : Option Bool :=
 if (decide (v6.2 < (v6.1.Versions.length : Int))) then
 (l8 v6.1.Versions v6.2).bind fun v8 =>
 (a2x v8).bind fun v9 =>
 if (!v9) then
 some false
 else
 r7 (v6.1, i64 (v6.2 + 1))
 else
 some true
def a3o (a0 : Statute) : Option Bool :=
 (s5 a0.Name).bind fun v1 =>
 (if (!v1) then some true else some (decide (a0.Currency < 1))).bind fun v2 =>
 (if v2 then some true else some (decide (a0.Currency > 999))).bind fun v3 =>
 (if v3 then some true else some (decide ((a0.Versions.length : Int) < 1))).bind fun v4 =>
 (if v4 then some true else some (decide ((a0.Versions.length : Int) > 6))).bind fun v5 =>
 if v5 then
 some false
 else
 d9 FU a4p (a0, 0)
def a4q (r9 : ((List Version) × Statute × pensionref5_reader × (List Version) × Statute × Bool) -> Option (Statute × Int × Int)) (v10 : (List Version) × Statute × pensionref5_reader × (List Version) × Statute) : Option (Statute × Int × Int) :=
 (a26 v10.2.2.1).bind fun v11 =>
 (a8w 144 v10.2.2.2.1 [v11.1]).bind fun v12 =>
 r9 (v10.1, (⟨v10.2.1.Name, v10.2.1.Currency, []⟩ : Statute), v11.2, v12, (⟨v10.2.2.2.2.Name, v10.2.2.2.2.Currency, []⟩ : Statute), false)
def a7b (v14 : (List Version) × Statute × pensionref5_reader × (List Version) × Statute) : Option (Statute × Int × Int) :=
 (if v14.2.2.1.bad then some true else some (decide (v14.2.2.1.at_ < (v14.2.2.1.l.length : Int)))).bind fun v15 =>
 if v15 then
 (a7z v14.2.2.1).bind fun v16 =>
 some ((⟨a1f, 0, []⟩ : Statute), v16, 4)
 else
 (a3o (⟨v14.2.2.2.2.Name, v14.2.2.2.2.Currency, v14.2.2.2.1⟩ : Statute)).bind fun v17 =>
 if (!v17) then
 some ((⟨a1f, 0, []⟩ : Statute), 0, 7)
 else
 some ((⟨v14.2.2.2.2.Name, v14.2.2.2.2.Currency, v14.2.2.2.1⟩ : Statute), 0, 0)
def a3a (r9 : ((List Version) × Statute × pensionref5_reader × (List Version) × Statute × Bool) -> Option (Statute × Int × Int)) (v8 : (List Version) × Statute × pensionref5_reader × (List Version) × Statute × Bool) : Option (Statute × Int × Int) :=
 if (!v8.2.2.1.bad) then
 if v8.2.2.2.2.2 then
 joinC (a4q r9) (v8.1, (⟨v8.2.1.Name, v8.2.1.Currency, []⟩ : Statute), v8.2.2.1, v8.2.2.2.1, (⟨v8.2.2.2.2.1.Name, v8.2.2.2.2.1.Currency, []⟩ : Statute))
 else
 (d8 v8.2.2.1 a2i).bind fun v13 =>
 if (!v13.1) then
 joinC (a4q r9) (v8.1, (⟨v8.2.1.Name, v8.2.1.Currency, []⟩ : Statute), v13.2, v8.2.2.2.1, (⟨v8.2.2.2.2.1.Name, v8.2.2.2.2.1.Currency, []⟩ : Statute))
 else
 joinC a7b (v8.1, (⟨v8.2.1.Name, v8.2.1.Currency, []⟩ : Statute), v13.2, v8.2.2.2.1, (⟨v8.2.2.2.2.1.Name, v8.2.2.2.2.1.Currency, []⟩ : Statute))
 else
 joinC a7b (v8.1, (⟨v8.2.1.Name, v8.2.1.Currency, []⟩ : Statute), v8.2.2.1, v8.2.2.2.1, (⟨v8.2.2.2.2.1.Name, v8.2.2.2.2.1.Currency, []⟩ : Statute))
def a2d (a0 : ByteArray) : Option (Statute × Int × Int) :=
 (a9r a0).bind fun v1 =>
 optC v1.1 (if (v1.2.2 != 0) then
 some ((⟨a1f, 0, []⟩ : Statute), v1.2.1, v1.2.2)
 else
 none) fun v2 =>
 if (v1.2.2 != 0) then
 some ((⟨a1f, 0, []⟩ : Statute), v1.2.1, v1.2.2)
 else
 (c6 v2 a33).bind fun v3 =>
 (a0r v3).bind fun v4 =>
 (c6 v4.2 a23).bind fun v5 =>
 (s9 v5 1 999).bind fun v6 =>
 (c6 v6.2 b2b).bind fun v7 =>
 d9 FU a3a ([], (⟨a1f, 0, []⟩ : Statute), v7, [], (⟨v4.1, v6.1, []⟩ : Statute), true)
def a0j (a0 : List Int) (r2 : ((List State) × (List Rules) × (List Rate) × Laws × (List State) × (List Rules) × Laws × Int) -> Option Laws) (v1 : (List State) × (List Rules) × (List Rate) × Laws × (List State) × (List Rules) × Laws × Int) : Option Laws :=
 if (decide (v1.2.2.2.2.2.2.2 < 3)) then
 (a0m v1.2.2.2.2.2.2.2 a0).bind fun v3 =>
 (a2d v3).bind fun v4 =>
 if (v4.2.2 == 0) then
 (a8w 56 v1.2.2.2.2.1 [(⟨v1.2.2.2.2.2.2.2, v4.1⟩ : State)]).bind fun v5 =>
 r2 (v1.1, v1.2.1, v1.2.2.1, (⟨[], [], []⟩ : Laws), v5, v1.2.2.2.2.2.1, (⟨[], [], v1.2.2.2.2.2.2.1.Rates⟩ : Laws), i64 (v1.2.2.2.2.2.2.2 + 1))
 else
 r2 (v1.1, v1.2.1, v1.2.2.1, (⟨[], [], []⟩ : Laws), v1.2.2.2.2.1, v1.2.2.2.2.2.1, (⟨[], [], v1.2.2.2.2.2.2.1.Rates⟩ : Laws), i64 (v1.2.2.2.2.2.2.2 + 1))
 else
 (c8 a0 2).bind fun v6 =>
 (b6 v6 6).bind fun v7 =>
 (c8 a0 5).bind fun v8 =>
 (b6 v8 3).bind fun v9 =>
 if (v9 == 0) then
 (l8 [(⟨0, i64 (90 * v7), 730, 25, [0, 1]⟩ : Rules)] 0).bind fun v10 =>
 (l8 [(⟨0, i64 (90 * v7), 730, 25, [0, 1]⟩ : Rules)] 0).bind fun v11 =>
 some (⟨v1.2.2.2.2.1, b0x [(⟨0, i64 (90 * v7), 730, 25, [0, 1]⟩ : Rules)] 0 (⟨v11.From, v11.MinDays, v11.PostingLimit, v11.Substantial, [0, 1, 2]⟩ : Rules), v1.2.2.2.2.2.2.1.Rates⟩ : Laws)
 else
 if (v9 == 1) then
 (a8w 56 [(⟨0, i64 (90 * v7), 730, 25, [0, 1]⟩ : Rules)] [(⟨35000, i64 (90 * v7), 365, 30, [0, 1, 2]⟩ : Rules)]).bind fun v12 =>
 some (⟨v1.2.2.2.2.1, v12, v1.2.2.2.2.2.2.1.Rates⟩ : Laws)
 else
 (l8 [(⟨0, i64 (90 * v7), 730, 25, [0, 1]⟩ : Rules)] 0).bind fun v13 =>
 (l8 [(⟨0, i64 (90 * v7), 730, 25, [0, 1]⟩ : Rules)] 0).bind fun v14 =>
 (a8w 56 (b0x [(⟨0, i64 (90 * v7), 730, 25, [0, 1]⟩ : Rules)] 0 (⟨v14.From, v14.MinDays, v14.PostingLimit, v14.Substantial, [0, 1, 2]⟩ : Rules)) [(⟨36000, i64 (90 * v7), 730, 25, [0, 1]⟩ : Rules)]).bind fun v15 =>
 some (⟨v1.2.2.2.2.1, v15, v1.2.2.2.2.2.2.1.Rates⟩ : Laws)
def a7m (a0 : List Int) : Option Laws :=
 d9 FU (a0j a0) ([], [], [], (⟨[], [], []⟩ : Laws), [], [], (⟨[], [], [(⟨1, 0, (⟨1, 1⟩ : Fraction)⟩ : Rate), (⟨2, 0, (⟨3, 2⟩ : Fraction)⟩ : Rate), (⟨3, 0, (⟨1, 7⟩ : Fraction)⟩ : Rate), (⟨3, 1150, (⟨1, 9⟩ : Fraction)⟩ : Rate)]⟩ : Laws), 0)
def b05 (a0 : List pensionhand_Claim) (r2 : ((List Claim) × Int) -> Option (List Claim)) (v1 : (List Claim) × Int) : Option (List Claim) :=
 (if (decide (v1.2 < (a0.length : Int))) then some (decide (v1.2 < 6)) else some false).bind fun v3 =>
 if v3 then
 (l8 a0 v1.2).bind fun v4 =>
 (b6 v4.Issuer 3).bind fun v5 =>
 (l8 a0 v1.2).bind fun v6 =>
 (b6 v6.Number 9).bind fun v7 =>
 (l8 a0 v1.2).bind fun v8 =>
 (b6 v8.Person 4).bind fun v9 =>
 (l8 a0 v1.2).bind fun v10 =>
 (b6 v10.Benefit 5).bind fun v11 =>
 (l8 a0 v1.2).bind fun v12 =>
 (b6 v12.Day 900).bind fun v13 =>
 (if ((i64 (1 + v11)) == 3) then some true else some ((i64 (1 + v11)) == 4)).bind fun v14 =>
 if v14 then
 (l8 a0 v1.2).bind fun v15 =>
 (b6 v15.Ref 4).bind fun v16 =>
 if ((i64 (1 + v16)) == (i64 (1 + v9))) then
 (b6 (i64 (1 + v9)) 4).bind fun v17 =>
 (a8w 48 v1.1 [(⟨v5, i64 (1 + v7), i64 (1 + v9), i64 (1 + v11), i64 (1 + v17), i64 (35150 + v13)⟩ : Claim)]).bind fun v18 =>
 r2 (v18, i64 (v1.2 + 1))
 else
 (a8w 48 v1.1 [(⟨v5, i64 (1 + v7), i64 (1 + v9), i64 (1 + v11), i64 (1 + v16), i64 (35150 + v13)⟩ : Claim)]).bind fun v19 =>
 r2 (v19, i64 (v1.2 + 1))
 else
 (a8w 48 v1.1 [(⟨v5, i64 (1 + v7), i64 (1 + v9), i64 (1 + v11), 0, i64 (35150 + v13)⟩ : Claim)]).bind fun v20 =>
 r2 (v20, i64 (v1.2 + 1))
 else
 some v1.1
def a61 (a0 : List pensionhand_Claim) : Option (List Claim) :=
 d9 FU (b05 a0) ([], 0)
def a4r (a0 : Int) : Option (List Claim) :=
 (b6 a0 400).bind fun v1 =>
 some [(⟨0, 801, 1, 1, 0, i64 (35150 + v1)⟩ : Claim), (⟨0, 802, 1, 2, 0, i64 (35150 + v1)⟩ : Claim), (⟨1, 803, 1, 3, 2, i64 (35150 + v1)⟩ : Claim), (⟨1, 804, 1, 4, 3, i64 (35150 + v1)⟩ : Claim), (⟨2, 805, 1, 5, 0, i64 (35150 + v1)⟩ : Claim), (⟨2, 806, 3, 3, 2, i64 (35150 + v1)⟩ : Claim)]
def a6o (a0 : pensionlaw26_Seeds) : Option (Laws × (List api_Fact) × (List Claim)) :=
 (a72 a0.Lives).bind fun v1 =>
 (a70 a0.Facts).bind fun v2 =>
 (a8w 112 v1 v2).bind fun v3 =>
 (a7m a0.Laws).bind fun v4 =>
 (a61 a0.Claims).bind fun v5 =>
 (a4r a0.Day).bind fun v6 =>
 (a8w 48 v5 v6).bind fun v7 =>
 some (v4, v3, v7)
def a5z (r2 : (Int × Int) -> Option (Int × Int)) (v1 : Int × Int) : Option (Int × Int) :=
 (b5i v1.2 12).bind fun v3 =>
 (b2j v1.2 12).bind fun v4 =>
 (a1s (i64 (1900 + v3)) (i64 (v4 + 1))).bind fun v5 =>
 if (decide (v1.1 < v5)) then
 some (v1.2, v1.1)
 else
 r2 (i64 (v1.1 - v5), i64 (v1.2 + 1))
def a3t (a0 : Int) : Option (Int × Int) :=
 d9 FU a5z (a0, 0)
def a4y (a0 : Int) : Option Int :=
 (a1v a0).bind fun v1 =>
 if (!v1) then
 some (-1 : Int)
 else
 (a3t a0).bind fun v2 =>
 some v2.1
def a0w (a0 : Int) : Option Bool :=
 (if (decide (a0 >= 0)) then some (decide (a0 <= 2399)) else some false).bind fun v1 =>
 some v1
def a42 (a0 : Int) : Option (Int × Bool) :=
 (a0w a0).bind fun v1 =>
 if (!v1) then
 some (0, false)
 else
 (a3m a0).bind fun v2 =>
 some (v2, true)
def a6k (v3 : Int) : Option (Int × Bool) :=
 (a0w v3).bind fun v4 =>
 if (!v4) then
 some (0, false)
 else
 some (v3, true)
def a0u (a0 : Claim) : Option (Int × Bool) :=
 (a4y a0.Day).bind fun v1 =>
 if (decide (v1 < 0)) then
 some (0, false)
 else
 (a42 v1).bind fun v2 =>
 if (decide (v2.1 < a0.Day)) then
 joinC a6k (i64 (v1 + 1))
 else
 joinC a6k v1
def a4a (a0 : Claim) : Option Bool :=
 (a0u a0).bind fun v1 =>
 (if (!v1.2) then some true else some (decide (a0.Issuer < 0))).bind fun v2 =>
 (if v2 then some true else some (decide (a0.Issuer >= 6))).bind fun v3 =>
 (if v3 then some true else some (decide (a0.Number < 1))).bind fun v4 =>
 (if v4 then some true else some (decide (a0.Number > 999))).bind fun v5 =>
 (if v5 then some true else some (decide (a0.Person < 1))).bind fun v6 =>
 (if v6 then some true else some (decide (a0.Person > 99))).bind fun v7 =>
 (if v7 then some true else some (decide (a0.Benefit < 1))).bind fun v8 =>
 (if v8 then some true else some (decide (a0.Benefit > 5))).bind fun v9 =>
 if v9 then
 some false
 else
 (if (a0.Benefit == 3) then some true else some (a0.Benefit == 4)).bind fun v10 =>
 if v10 then
 (if (decide (a0.Ref >= 1)) then some (decide (a0.Ref <= 99)) else some false).bind fun v11 =>
 (if v11 then some (a0.Ref != a0.Person) else some false).bind fun v12 =>
 some v12
 else
 some (a0.Ref == 0)
def a6c (a0 : List Claim) (a1 : Int) (r2 : (Int × Bool × Int) -> Option (Int × Bool)) (v1 : Int × Bool × Int) : Option (Int × Bool) :=
 if (decide (v1.2.2 < (a0.length : Int))) then
 (l8 a0 v1.2.2).bind fun v3 =>
 (a0u v3).bind fun v4 =>
 (if v4.2 then (l8 a0 v1.2.2).bind fun v5 =>
 (a4a v5).bind fun v6 =>
 some v6 else some false).bind fun v7 =>
 (if v7 then (l8 a0 v1.2.2).bind fun v8 =>
 some (v8.Person == a1) else some false).bind fun v9 =>
 (if v9 then (if (!v1.2.1) then some true else some (decide (v4.1 < v1.1))).bind fun v10 =>
 some v10 else some false).bind fun v11 =>
 if v11 then
 r2 (v4.1, true, i64 (v1.2.2 + 1))
 else
 r2 (v1.1, v1.2.1, i64 (v1.2.2 + 1))
 else
 some (v1.1, v1.2.1)
def a49 (a0 : List Claim) (a1 : Int) : Option (Int × Bool) :=
 d9 FU (a6c a0 a1) (0, false, 0)
def b88 (a0 : Int) : Option Bool :=
 (if (decide (a0 >= 97)) then some (decide (a0 <= 122)) else some false).bind fun v1 =>
 some v1
def b4v (a0 : Int) : Option Bool :=
 (if (decide (a0 >= 48)) then some (decide (a0 <= 57)) else some false).bind fun v1 =>
 some v1
def c1c (a0 : Int) : Option Bool :=
 (b88 a0).bind fun v1 =>
 (if v1 then some true else (b4v a0).bind fun v2 =>
 some v2).bind fun v3 =>
 (if v3 then some true else some (a0 == 95)).bind fun v4 =>
 some v4
def c3o (a0 : ByteArray) (r6 : Int -> Option Bool) (v5 : Int) : Option Bool :=
 if (decide (v5 < (a0.size : Int))) then
 (a8y a0 v5).bind fun v7 =>
 (c1c v7).bind fun v8 =>
 if (!v8) then
 some false
 else
 r6 (i64 (v5 + 1))
 else
 some true
def c0p (a0 : ByteArray) : Option Bool :=
 (if (decide ((a0.size : Int) < 1)) then some true else some (decide ((a0.size : Int) > 12))).bind fun v1 =>
 (if v1 then some true else (a8y a0 0).bind fun v2 =>
 (b88 v2).bind fun v3 =>
 some (!v3)).bind fun v4 =>
 if v4 then
 some false
 else
 d9 FU (c3o a0) 0
def b74 (a0 : ByteArray) : Option Bool :=
 if (a0.toList == b69.toList) then
 if (a0.toList == b69.toList) then
 some true
 else
 some false
 else
 if (a0.toList == b01.toList) then
 if (a0.toList == b01.toList) then
 some true
 else
 some false
 else
 if (a0.toList == b9x.toList) then
 if (a0.toList == b9x.toList) then
 some true
 else
 some false
 else
 if (a0.toList == a1w.toList) then
 if (a0.toList == a1w.toList) then
 some true
 else
 some false
 else
 if (a0.toList == a23.toList) then
 if (a0.toList == a23.toList) then
 some true
 else
 some false
 else
 if (a0.toList == b2w.toList) then
 if (a0.toList == b2w.toList) then
 some true
 else
 some false
 else
 if (a0.toList == b0a.toList) then
 if (a0.toList == b0a.toList) then
 some true
 else
 some false
 else
 if (a0.toList == b2t.toList) then
 if (a0.toList == b2t.toList) then
 some true
 else
 some false
 else
 if (a0.toList == a35.toList) then
 if (a0.toList == a35.toList) then
 some true
 else
 some false
 else
 if (a0.toList == a9b.toList) then
 if (a0.toList == a9b.toList) then
 some true
 else
 some false
 else
 if (a0.toList == a4g.toList) then
 if (a0.toList == a4g.toList) then
 some true
 else
 some false
 else
 if (a0.toList == a9m.toList) then
 if (a0.toList == a9m.toList) then
 some true
 else
 some false
 else
 if (a0.toList == a7j.toList) then
 if (a0.toList == a7j.toList) then
 some true
 else
 some false
 else
 if (a0.toList == b3m.toList) then
 if (a0.toList == b3m.toList) then
 some true
 else
 some false
 else
 if (a0.toList == b4t.toList) then
 if (a0.toList == b4t.toList) then
 some true
 else
 some false
 else
 if (a0.toList == b6d.toList) then
 if (a0.toList == b6d.toList) then
 some true
 else
 some false
 else
 if (a0.toList == c2f.toList) then
 if (a0.toList == c2f.toList) then
 some true
 else
 some false
 else
 if (a0.toList == b0s.toList) then
 if (a0.toList == b0s.toList) then
 some true
 else
 some false
 else
 if (a0.toList == a3n.toList) then
 if (a0.toList == a3n.toList) then
 some true
 else
 some false
 else
 if (a0.toList == b0g.toList) then
 if (a0.toList == b0g.toList) then
 some true
 else
 some false
 else
 if (a0.toList == a33.toList) then
 if (a0.toList == a33.toList) then
 some true
 else
 some false
 else
 if (a0.toList == b6m.toList) then
 some true
 else
 some false
def a4b (a0 : ByteArray) : Option Bool :=
 (c0p a0).bind fun v1 =>
 (if v1 then (b74 a0).bind fun v2 =>
 some (!v2) else some false).bind fun v3 =>
 some v3
def a3h (a0 : Int) : Option Bool :=
 (if (decide (a0 >= 0)) then some (decide (a0 <= 73048)) else some false).bind fun v1 =>
 some v1
def b2l : Option (List syntax_entry) :=
 some [(⟨b9i, 1⟩ : syntax_entry), (⟨c8g, 2⟩ : syntax_entry), (⟨b8n, 3⟩ : syntax_entry), (⟨b8r, 4⟩ : syntax_entry)]
def b3x (a0 : syntax_entry) (a1 : Int) : Option Bool :=
 some (a0.number == a1)
def a32 (a0 : List syntax_entry) (a1_0 : Int) (r2 : Int -> Option Int) (v1 : Int) : Option Int :=
 if (decide (v1 < (a0.length : Int))) then
 (l8 a0 v1).bind fun v3 =>
 (b3x v3 a1_0).bind fun v4 =>
 if v4 then
 some v1
 else
 r2 (i64 (v1 + 1))
 else
 some (-1 : Int)
def a0d (a0 : List syntax_entry) (a1_0 : Int) : Option Int :=
 d9 FU (a32 a0 a1_0) 0
def a13 (a0 : List syntax_entry) (a1 : Int) : Option ByteArray :=
 (a0d a0 a1).bind fun v1 =>
 if (decide (v1 < 0)) then
 some a1f
 else
 (l8 a0 v1).bind fun v2 =>
 some v2.name
def b2v : Option (List syntax_entry) :=
 some [(⟨a5f, 6⟩ : syntax_entry), (⟨b20, 9⟩ : syntax_entry), (⟨a7l, 7⟩ : syntax_entry), (⟨c79, 8⟩ : syntax_entry), (⟨b6g, 10⟩ : syntax_entry), (⟨a8e, 5⟩ : syntax_entry)]
def a6i (a0 : ByteArray) (a1 : Int) : Option Int :=
 (a5d a0 a1).bind fun v1 =>
 some v1
def a4w (a0 : ByteArray) (a1 : ByteArray) : Option Int :=
 (if ((a1.size : Int) == 0) then some true else some (a1.toList == a0.toList)).bind fun v1 =>
 if v1 then
 some 0
 else
 if ((a1.size : Int) == 1) then
 (a8y a1 0).bind fun v2 =>
 (a6i a0 v2).bind fun v3 =>
 some v3
 else
 if (decide ((a1.size : Int) >= (a0.size : Int))) then
 some (-1 : Int)
 else
 none
def b1u (a0 : ByteArray) (a1 : ByteArray) : Option (ByteArray × ByteArray × Bool) :=
 (a4w a0 a1).bind fun v1 =>
 if (decide (v1 >= 0)) then
 (b5f a0 0 v1).bind fun v2 =>
 (b5f a0 (i64 (v1 + (a1.size : Int))) (a0.size : Int)).bind fun v3 =>
 some (v2, v3, true)
 else
 some (a0, a1f, false)
def b4p (a0 : ByteArray) (a1 : ByteArray) : Option (ByteArray × ByteArray × Bool) :=
 (b1u a0 a1).bind fun v1 =>
 some (v1.1, v1.2.1, v1.2.2)
def a5g (a0 : ByteArray) (r2 : (Int × Int) -> Option (Int × Bool)) (v1 : Int × Int) : Option (Int × Bool) :=
 if (decide (v1.2 < (a0.size : Int))) then
 (a8y a0 v1.2).bind fun v3 =>
 (b4v v3).bind fun v4 =>
 if (!v4) then
 some (0, false)
 else
 (a8y a0 v1.2).bind fun v5 =>
 r2 (i64 ((i64 (10 * v1.1)) + (i64 (IntKind.u8.wrap (v5 - 48)))), i64 (v1.2 + 1))
 else
 some (v1.1, true)
def a5b (a0 : ByteArray) : Option (Int × Bool) :=
 d9 FU (a5g a0) (0, 0)
def b0n (v23 : Int) (r22 : (Fraction × Int) -> Option (Fraction × Int × Bool)) (v21 : Fraction × Int) (r25 : Fraction -> Option (Fraction × Int × Bool)) (v24 : Fraction) : Option (Fraction × Int × Bool) :=
 (b2j v24.Num v23).bind fun v26 =>
 (if (v26 == 0) then (b2j v24.Den v23).bind fun v27 =>
 some (v27 == 0) else some false).bind fun v28 =>
 if v28 then
 (b5i v24.Num v23).bind fun v29 =>
 (b5i v24.Den v23).bind fun v30 =>
 r25 (⟨v29, v30⟩ : Fraction)
 else
 r22 (v24, i64 (v21.2 + 1))
def a17 (v20 : Fraction × Int × Int × Int) (r22 : (Fraction × Int) -> Option (Fraction × Int × Bool)) (v21 : Fraction × Int) : Option (Fraction × Int × Bool) :=
 if (decide (v21.2 < 2)) then
 (l8 (⟨[2, 5], rfl⟩ : Ar 2 Int).l v21.2).bind fun v23 =>
 d9 FU (b0n v23 r22 v21) v21.1
 else
 some (v21.1, v20.2.1, true)
def b57 (v20 : Fraction × Int × Int × Int) : Option (Fraction × Int × Bool) :=
 d9 FU (a17 v20) ((⟨i64 (v20.2.2.1 + v20.2.2.2), v20.1.Den⟩ : Fraction), 0)
def b55 (v4 : ByteArray × Fraction × Int) (v14 : Int × Bool) (r17 : (Fraction × Int × (ByteArray × Int)) -> Option (Fraction × Int × Bool)) (v16 : Fraction × Int × (ByteArray × Int)) : Option (Fraction × Int × Bool) :=
 optC (c2q v16.2.2.1 v16.2.2.2) (joinC b57 (v16.1, v4.2.2, v16.2.1, v14.1)) fun v18 =>
 (v18).bind fun v19 =>
 r17 ((⟨v16.1.Num, i64 (10 * v16.1.Den)⟩ : Fraction), i64 (10 * v16.2.1), (v16.2.2.1, v16.2.2.2 + 1))
def a5k (v4 : ByteArray × Fraction × Int) : Option (Fraction × Int × Bool) :=
 (b4p v4.1 a8a).bind fun v5 =>
 (if (decide ((v5.1.size : Int) < 1)) then some true else some (decide ((v5.1.size : Int) > 9))).bind fun v6 =>
 (if v6 then some true else (if (decide ((v5.1.size : Int) > 1)) then (a8y v5.1 0).bind fun v7 =>
 some (v7 == 48) else some false).bind fun v8 =>
 some v8).bind fun v9 =>
 (if v9 then some true else (if v5.2.2 then (if (decide ((v5.2.1.size : Int) < 1)) then some true else some (decide ((v5.2.1.size : Int) > 4))).bind fun v10 =>
 some v10 else some false).bind fun v11 =>
 some v11).bind fun v12 =>
 if v12 then
 some ((⟨0, 0⟩ : Fraction), 0, false)
 else
 (a5b v5.1).bind fun v13 =>
 (a5b v5.2.1).bind fun v14 =>
 (if (!v13.2) then some true else some (!v14.2)).bind fun v15 =>
 if v15 then
 some ((⟨0, 0⟩ : Fraction), 0, false)
 else
 d9 FU (b55 v4 v14) ((⟨v4.2.1.Num, 1⟩ : Fraction), v13.1, (v5.2.1, 0))
def b1k (a0 : ByteArray) : Option (Fraction × Int × Bool) :=
 (if (decide ((a0.size : Int) > 0)) then (a8y a0 (i64 ((a0.size : Int) - 1))).bind fun v1 =>
 some (v1 == 100) else some false).bind fun v2 =>
 if v2 then
 (b5f a0 0 (i64 ((a0.size : Int) - 1))).bind fun v3 =>
 joinC a5k (v3, (⟨0, 0⟩ : Fraction), 3)
 else
 (if (decide ((a0.size : Int) > 0)) then (a8y a0 (i64 ((a0.size : Int) - 1))).bind fun v31 =>
 some (v31 == 109) else some false).bind fun v32 =>
 if v32 then
 (b5f a0 0 (i64 ((a0.size : Int) - 1))).bind fun v33 =>
 joinC a5k (v33, (⟨0, 0⟩ : Fraction), 4)
 else
 joinC a5k (a0, (⟨0, 0⟩ : Fraction), 2)
def a96 (r8 : (Fraction × ByteArray × Int × Int) -> Option (ByteArray × Bool)) (v10 : Int × Fraction × ByteArray × Int × Int) : Option (ByteArray × Bool) :=
 if (v10.2.2.2.2 == 4) then
 some (a1f, false)
 else
 (b5i (i64 (v10.2.2.2.1 * 10)) v10.2.1.Den).bind fun v11 =>
 (strconv_Itoa v11).bind fun v12 =>
 (a40 v10.2.2.1 v12).bind fun v13 =>
 (b2j (i64 (v10.2.2.2.1 * 10)) v10.2.1.Den).bind fun v14 =>
 r8 (v10.2.1, v13, v14, i64 (v10.2.2.2.2 + 1))
def a29 (v16 : Int × Fraction × ByteArray) : Option (ByteArray × Bool) :=
 (b1k v16.2.2).bind fun v17 =>
 (if (!v17.2.2) then some true else some (!((v17.1.Num == v16.2.1.Num) && ((v17.1.Den == v16.2.1.Den) && (true))))).bind fun v18 =>
 (if v18 then some true else some (v17.2.1 != v16.1)).bind fun v19 =>
 if v19 then
 some (a1f, false)
 else
 some (v16.2.2, true)
def a91 (a1 : Int) (r8 : (Fraction × ByteArray × Int × Int) -> Option (ByteArray × Bool)) (v7 : Fraction × ByteArray × Int × Int) : Option (ByteArray × Bool) :=
 if (decide (v7.2.2.1 > 0)) then
 if (v7.2.2.2 == 0) then
 (a40 v7.2.1 a8a).bind fun v9 =>
 joinC (a96 r8) (a1, v7.1, v9, v7.2.2.1, v7.2.2.2)
 else
 joinC (a96 r8) (a1, v7.1, v7.2.1, v7.2.2.1, v7.2.2.2)
 else
 if (a1 == 3) then
 (a40 v7.2.1 e1v).bind fun v15 =>
 joinC a29 (a1, v7.1, v15)
 else
 if (a1 == 4) then
 (a40 v7.2.1 e4m).bind fun v20 =>
 joinC a29 (a1, v7.1, v20)
 else
 joinC a29 (a1, v7.1, v7.2.1)
def a04 (a0 : Fraction) (a1 : Int) : Option (ByteArray × Bool) :=
 (if (decide (a0.Den < 1)) then some true else some (decide (a0.Den > 10000))).bind fun v1 =>
 (if v1 then some true else some (decide (a0.Num < 0))).bind fun v2 =>
 (if v2 then some true else some (decide (a0.Num > 1000000000000000))).bind fun v3 =>
 if v3 then
 some (a1f, false)
 else
 (b5i a0.Num a0.Den).bind fun v4 =>
 (strconv_Itoa v4).bind fun v5 =>
 (b2j a0.Num a0.Den).bind fun v6 =>
 d9 FU (a91 a1) (a0, v5, v6, 0)
def b0t (a0 : Int) : Option Bool :=
 (if (decide (a0 >= 1900)) then some (decide (a0 <= 2099)) else some false).bind fun v1 =>
 some v1
def a9q (a0 : Index) : Option Bool :=
 (a04 a0.Factor 2).bind fun v1 =>
 (if v1.2 then some (decide (a0.Factor.Num > 0)) else some false).bind fun v2 =>
 (if v2 then (b0t a0.Year).bind fun v3 =>
 some v3 else some false).bind fun v4 =>
 some v4
structure Ring_syntax_Depth where
  f_syntax_Depth : Expr -> Option Int
def b1y (R : Ring_syntax_Depth) (a0 : Expr) (r2 : (Int × Int) -> Option Int) (v1 : Int × Int) : Option Int :=
 if (decide (v1.2 < (a0.Args.length : Int))) then
 (l8 a0.Args v1.2).bind fun v3 =>
 (R.f_syntax_Depth v3).bind fun v4 =>
 r2 (max v1.1 v4, i64 (v1.2 + 1))
 else
 some (i64 (v1.1 + 1))
def b00 (R : Ring_syntax_Depth) (a0 : Expr) : Option Int :=
 d9 FU (b1y R a0) (0, 0)
def a1b : Nat -> Ring_syntax_Depth
  | 0 => ⟨fun _ => none⟩
  | n + 1 => ⟨b00 (a1b n)⟩
def c0t (a0 : Expr) : Option Int := (a1b FU).f_syntax_Depth a0
structure Ring_syntax_Size where
  f_syntax_Size : Expr -> Option Int
def b3j (R : Ring_syntax_Size) (a0 : Expr) (r2 : (Int × Int) -> Option Int) (v1 : Int × Int) : Option Int :=
 if (decide (v1.2 < (a0.Args.length : Int))) then
 (l8 a0.Args v1.2).bind fun v3 =>
 (R.f_syntax_Size v3).bind fun v4 =>
 r2 (i64 (v1.1 + v4), i64 (v1.2 + 1))
 else
 some v1.1
def b1m (R : Ring_syntax_Size) (a0 : Expr) : Option Int :=
 d9 FU (b3j R a0) (1, 0)
def a21 : Nat -> Ring_syntax_Size
  | 0 => ⟨fun _ => none⟩
  | n + 1 => ⟨b1m (a21 n)⟩
def c40 (a0 : Expr) : Option Int := (a21 FU).f_syntax_Size a0
def a50 (a0 : Int) : Option Int :=
 (if (a0 == 1) then some true else some (a0 == 2)).bind fun v1 =>
 (if v1 then some true else some (a0 == 3)).bind fun v2 =>
 if v2 then
 some 0
 else
 (if (a0 == 4) then some true else some (a0 == 5)).bind fun v3 =>
 (if v3 then some true else some (a0 == 6)).bind fun v4 =>
 if v4 then
 some 1
 else
 (if (decide (a0 >= 7)) then some (decide (a0 <= 20)) else some false).bind fun v5 =>
 if v5 then
 some 2
 else
 if (a0 == 21) then
 some 3
 else
 some (-1 : Int)
def a2c (a0 : Expr) : Option Bool :=
 (a50 a0.Op).bind fun v1 =>
 if ((a0.Args.length : Int) != v1) then
 some false
 else
 if (a0.Op == 1) then
 (a04 a0.Value a0.Dim).bind fun v2 =>
 (if v2.2 then some (a0.Name.toList == a1f.toList) else some false).bind fun v3 =>
 some v3
 else
 if (a0.Op == 2) then
 (a4b a0.Name).bind fun v4 =>
 (if v4 then some ((a0.Value.Num == 0) && ((a0.Value.Den == 0) && (true))) else some false).bind fun v5 =>
 (if v5 then some (a0.Dim == 0) else some false).bind fun v6 =>
 some v6
 else
 if (a0.Op == 3) then
 (if (a0.Value.Den == 1) then some (decide (a0.Value.Num >= 1)) else some false).bind fun v7 =>
 (if v7 then some (decide (a0.Value.Num <= 45)) else some false).bind fun v8 =>
 (if v8 then some (a0.Dim == 0) else some false).bind fun v9 =>
 (if v9 then some (a0.Name.toList == a1f.toList) else some false).bind fun v10 =>
 some v10
 else
 (if ((a0.Value.Num == 0) && ((a0.Value.Den == 0) && (true))) then some (a0.Dim == 0) else some false).bind fun v11 =>
 (if v11 then some (a0.Name.toList == a1f.toList) else some false).bind fun v12 =>
 some v12
structure Ring_syntax_form where
  f_syntax_form : Expr -> Option Bool
  f_syntax_form_1 : Expr -> Option Bool
  f_slices_ContainsFunc_of_api_Expr : (List Expr) -> Option Bool
  f_slices_IndexFunc_of_api_Expr : (List Expr) -> Option Int
def b1l (R : Ring_syntax_form) (a0 : Expr) : Option Bool :=
 (a2c a0).bind fun v1 =>
 (if v1 then (R.f_slices_ContainsFunc_of_api_Expr a0.Args).bind fun v2 =>
 some (!v2) else some false).bind fun v3 =>
 some v3
def a8p (R : Ring_syntax_form) (a0 : Expr) : Option Bool :=
 (R.f_syntax_form a0).bind fun v1 =>
 some (!v1)
def p5 (R : Ring_syntax_form) (a0 : List Expr) : Option Bool :=
 (R.f_slices_IndexFunc_of_api_Expr a0).bind fun v1 =>
 some (decide (v1 >= 0))
def w9 (R : Ring_syntax_form) (a0 : List Expr) (r2 : Int -> Option Int) (v1 : Int) : Option Int :=
 if (decide (v1 < (a0.length : Int))) then
 (l8 a0 v1).bind fun v3 =>
 (R.f_syntax_form_1 v3).bind fun v4 =>
 if v4 then
 some v1
 else
 r2 (i64 (v1 + 1))
 else
 some (-1 : Int)
def m6 (R : Ring_syntax_form) (a0 : List Expr) : Option Int :=
 d9 FU (w9 R a0) 0
def d7 : Nat -> Ring_syntax_form
  | 0 => ⟨fun _ => none, fun _ => none, fun _ => none, fun _ => none⟩
  | n + 1 => ⟨b1l (d7 n), a8p (d7 n), p5 (d7 n), m6 (d7 n)⟩
def c3b (a0 : Expr) : Option Bool := (d7 FU).f_syntax_form a0
def a09 (a0 : Expr) : Option Bool :=
 (c0t a0).bind fun v1 =>
 (if (decide (v1 <= 10)) then (c40 a0).bind fun v2 =>
 some (decide (v2 <= 60)) else some false).bind fun v3 =>
 (if v3 then (c3b a0).bind fun v4 =>
 some v4 else some false).bind fun v5 =>
 some v5
def a6l : Option (List syntax_entry) :=
 some [(⟨b7u, 1⟩ : syntax_entry), (⟨a4l, 2⟩ : syntax_entry), (⟨b0i, 3⟩ : syntax_entry), (⟨b3v, 4⟩ : syntax_entry), (⟨b0c, 5⟩ : syntax_entry)]
def a5w (v38 : Version) (r40 : Int -> Option Bool) (v39 : Int) : Option Bool :=
 if (decide (v39 < (v38.Reduces.length : Int))) then
 (l8 v38.Reduces v39).bind fun v41 =>
 (a6l).bind fun v42 =>
 (a13 v42 v41.Benefit).bind fun v43 =>
 (if (v43.toList == a1f.toList) then some true else (a09 v41.By).bind fun v44 =>
 some (!v44)).bind fun v45 =>
 if v45 then
 some false
 else
 r40 (i64 (v39 + 1))
 else
 some true
def a5t (v38 : Version) : Option Bool :=
 d9 FU (a5w v38) 0
def a60 (v28 : Version) (r30 : (Version × Int) -> Option Bool) (v29 : Version × Int) : Option Bool :=
 if (decide (v29.2 < (v28.Grants.length : Int))) then
 (l8 v28.Grants v29.2).bind fun v31 =>
 (a6l).bind fun v32 =>
 (a13 v32 v31.Benefit).bind fun v33 =>
 (if (v33.toList == a1f.toList) then some true else (a09 v31.If).bind fun v34 =>
 some (!v34)).bind fun v35 =>
 (if v35 then some true else (a09 v31.Pay).bind fun v36 =>
 some (!v36)).bind fun v37 =>
 if v37 then
 some false
 else
 r30 (v29.1, i64 (v29.2 + 1))
 else
 joinC a5t v29.1
def a5s (v28 : Version) : Option Bool :=
 d9 FU (a60 v28) (v28, 0)
def a5u (v21 : Version) (r23 : (Version × Int) -> Option Bool) (v22 : Version × Int) : Option Bool :=
 if (decide (v22.2 < (v21.Lets.length : Int))) then
 (l8 v21.Lets v22.2).bind fun v24 =>
 (a4b v24.Name).bind fun v25 =>
 (if (!v25) then some true else (a09 v24.Body).bind fun v26 =>
 some (!v26)).bind fun v27 =>
 if v27 then
 some false
 else
 r23 (v22.1, i64 (v22.2 + 1))
 else
 joinC a5s v22.1
def a5q (v21 : Version) : Option Bool :=
 d9 FU (a5u v21) (v21, 0)
def a5v (v16 : Version) (r18 : (Version × Int) -> Option Bool) (v17 : Version × Int) : Option Bool :=
 if (decide (v17.2 < (v16.Series.length : Int))) then
 (l8 v16.Series v17.2).bind fun v19 =>
 (a9q v19).bind fun v20 =>
 if (!v20) then
 some false
 else
 r18 (v17.1, i64 (v17.2 + 1))
 else
 joinC a5q v17.1
def a5x (v16 : Version) : Option Bool :=
 d9 FU (a5v v16) (v16, 0)
def a41 (v4 : Version) (r10 : (Version × Int) -> Option Bool) (v9 : Version × Int) : Option Bool :=
 if (decide (v9.2 < (v4.Credits.length : Int))) then
 (l8 v4.Credits v9.2).bind fun v11 =>
 (b2v).bind fun v12 =>
 (a13 v12 v11.Kind).bind fun v13 =>
 (if (v13.toList == a1f.toList) then some true else some (decide (v11.Limit < 0))).bind fun v14 =>
 (if v14 then some true else some (decide (v11.Limit > 73049))).bind fun v15 =>
 if v15 then
 some false
 else
 r10 (v9.1, i64 (v9.2 + 1))
 else
 joinC a5x v9.1
def a5y (v4 : Version) : Option Bool :=
 (if (decide ((v4.Credits.length : Int) > 6)) then some true else some (decide ((v4.Series.length : Int) > 20))).bind fun v5 =>
 (if v5 then some true else some (decide ((v4.Lets.length : Int) > 10))).bind fun v6 =>
 (if v6 then some true else some (decide ((v4.Grants.length : Int) > 5))).bind fun v7 =>
 (if v7 then some true else some (decide ((v4.Reduces.length : Int) > 5))).bind fun v8 =>
 if v8 then
 some false
 else
 d9 FU (a41 v4) (v4, 0)
def a5e (a0 : Version) : Option Bool :=
 (a3h a0.From).bind fun v1 =>
 if (!v1) then
 (if true then some true else some (decide (a0.Rounding.Unit < 1))).bind fun v2 =>
 (if v2 then some true else some (decide (a0.Rounding.Unit > 100000))).bind fun v3 =>
 if v3 then
 some false
 else
 joinC a5y a0
 else
 (b2l).bind fun v46 =>
 (a13 v46 a0.Rounding.Mode).bind fun v47 =>
 (if (v47.toList == a1f.toList) then some true else some (decide (a0.Rounding.Unit < 1))).bind fun v48 =>
 (if v48 then some true else some (decide (a0.Rounding.Unit > 100000))).bind fun v49 =>
 if v49 then
 some false
 else
 joinC a5y a0
def a8l (a0 : Statute) (r7 : Int -> Option Bool) (v6 : Int) : Option Bool :=
 if (decide (v6 < (a0.Versions.length : Int))) then
 (l8 a0.Versions v6).bind fun v8 =>
 (a5e v8).bind fun v9 =>
 if (!v9) then
 some false
 else
 r7 (i64 (v6 + 1))
 else
 some true
def b2u (a0 : Statute) : Option Bool :=
 (a4b a0.Name).bind fun v1 =>
 (if (!v1) then some true else some (decide (a0.Currency < 1))).bind fun v2 =>
 (if v2 then some true else some (decide (a0.Currency > 999))).bind fun v3 =>
 (if v3 then some true else some (decide ((a0.Versions.length : Int) < 1))).bind fun v4 =>
 (if v4 then some true else some (decide ((a0.Versions.length : Int) > 6))).bind fun v5 =>
 if v5 then
 some false
 else
 d9 FU (a8l a0) 0
def a3z (v2 : ByteArray × Bool) : Option (Int × Bool) :=
 if v2.2 then
 some (3, true)
 else
 if (v2.1.toList == a8t.toList) then
 some (4, true)
 else
 some (0, false)
def b2e (v1 : ByteArray × Bool) : Option (Int × Bool) :=
 if v1.2 then
 some (2, true)
 else
 if (v1.1.toList == a3p.toList) then
 joinC a3z (v1.1, v1.1.toList == a3p.toList)
 else
 if (v1.1.toList == b4a.toList) then
 joinC a3z (v1.1, v1.1.toList == b4a.toList)
 else
 if (v1.1.toList == a5f.toList) then
 joinC a3z (v1.1, v1.1.toList == a5f.toList)
 else
 if (v1.1.toList == b20.toList) then
 joinC a3z (v1.1, v1.1.toList == b20.toList)
 else
 if (v1.1.toList == b27.toList) then
 joinC a3z (v1.1, v1.1.toList == b27.toList)
 else
 if (v1.1.toList == c1y.toList) then
 joinC a3z (v1.1, v1.1.toList == c1y.toList)
 else
 joinC a3z (v1.1, v1.1.toList == c9a.toList)
def a6d (a0 : ByteArray) : Option (Int × Bool) :=
 if (a0.toList == b7n.toList) then
 joinC b2e (a0, a0.toList == b7n.toList)
 else
 if (a0.toList == d2k.toList) then
 joinC b2e (a0, a0.toList == d2k.toList)
 else
 joinC b2e (a0, a0.toList == b0d.toList)
def b1j (a0 : ByteArray) : Option Bool :=
 (a09 (⟨2, (⟨0, 0⟩ : Fraction), 0, a0, []⟩ : Expr)).bind fun v1 =>
 some v1
def b9g (a0 : Binding) (a1 : Let) : Option Bool :=
 some (a0.Name.toList == a1.Name.toList)
def b3f (a0 : Binding) : Option Bool :=
 (if (decide (a0.Dim < 1)) then some true else some (decide (a0.Dim > 4))).bind fun v1 =>
 some v1
def a55 (a0 : ByteArray) (a1 : List Binding) : Option (Int × Bool) :=
 (a6d a0).bind fun v1 =>
 if v1.2 then some (v1.1, true) else some (match a1.reverse.find? fun b => b.Name.toList == a0.toList with | some b => (b.Dim, true) | none => (0, false))
def b5d (v30 : (List Int) × Int × Bool) : Option (Int × Bool) :=
 if v30.2.2 then
 (l8 v30.1 0).bind fun v31 =>
 (if (v31 == 1) then (l8 v30.1 1).bind fun v32 =>
 some (v32 == 1) else some false).bind fun v33 =>
 some (1, v33)
 else
 if (v30.2.1 == 21) then
 (l8 v30.1 1).bind fun v34 =>
 (l8 v30.1 0).bind fun v35 =>
 (if (v35 == 1) then (l8 v30.1 1).bind fun v36 =>
 (l8 v30.1 2).bind fun v37 =>
 some (v36 == v37) else some false).bind fun v38 =>
 some (v34, v38)
 else
 some (0, false)
def a48 (v25 : (List Int) × Int × Bool) : Option (Int × Bool) :=
 if v25.2.2 then
 (l8 v25.1 0).bind fun v26 =>
 (l8 v25.1 1).bind fun v27 =>
 (if (v26 == v27) then (l8 v25.1 0).bind fun v28 =>
 some (v28 != 1) else some false).bind fun v29 =>
 some (1, v29)
 else
 if (v25.2.1 == 17) then
 joinC b5d (v25.1, v25.2.1, v25.2.1 == 17)
 else
 joinC b5d (v25.1, v25.2.1, v25.2.1 == 18)
def a7q (v5 : (List Int) × Int × Bool) : Option (Int × Bool) :=
 if v5.2.2 then
 (l8 v5.1 0).bind fun v6 =>
 (l8 v5.1 0).bind fun v7 =>
 (l8 v5.1 1).bind fun v8 =>
 (if (v7 == v8) then (l8 v5.1 0).bind fun v9 =>
 some (v9 != 1) else some false).bind fun v10 =>
 some (v6, v10)
 else
 if (v5.2.1 == 9) then
 (l8 v5.1 0).bind fun v11 =>
 if (v11 == 2) then
 (l8 v5.1 1).bind fun v12 =>
 (l8 v5.1 1).bind fun v13 =>
 some (v12, v13 != 1)
 else
 (l8 v5.1 0).bind fun v14 =>
 (l8 v5.1 1).bind fun v15 =>
 (if (v15 == 2) then (l8 v5.1 0).bind fun v16 =>
 some (v16 != 1) else some false).bind fun v17 =>
 some (v14, v17)
 else
 if (v5.2.1 == 10) then
 (l8 v5.1 1).bind fun v18 =>
 if (v18 == 2) then
 (l8 v5.1 0).bind fun v19 =>
 (l8 v5.1 0).bind fun v20 =>
 some (v19, v20 != 1)
 else
 (l8 v5.1 0).bind fun v21 =>
 (l8 v5.1 1).bind fun v22 =>
 (if (v21 == v22) then (l8 v5.1 0).bind fun v23 =>
 some (v23 != 1) else some false).bind fun v24 =>
 some (2, v24)
 else
 if (v5.2.1 == 11) then
 joinC a48 (v5.1, v5.2.1, v5.2.1 == 11)
 else
 if (v5.2.1 == 12) then
 joinC a48 (v5.1, v5.2.1, v5.2.1 == 12)
 else
 if (v5.2.1 == 13) then
 joinC a48 (v5.1, v5.2.1, v5.2.1 == 13)
 else
 if (v5.2.1 == 14) then
 joinC a48 (v5.1, v5.2.1, v5.2.1 == 14)
 else
 if (v5.2.1 == 15) then
 joinC a48 (v5.1, v5.2.1, v5.2.1 == 15)
 else
 joinC a48 (v5.1, v5.2.1, v5.2.1 == 16)
def b56 (v1 : (List Int) × Int × Bool) : Option (Int × Bool) :=
 if v1.2.2 then
 (l8 v1.1 0).bind fun v2 =>
 (l8 v1.1 0).bind fun v3 =>
 some (v2, v3 != 1)
 else
 if (v1.2.1 == 5) then
 (l8 v1.1 0).bind fun v4 =>
 some (1, v4 == 1)
 else
 if (v1.2.1 == 7) then
 joinC a7q (v1.1, v1.2.1, v1.2.1 == 7)
 else
 if (v1.2.1 == 8) then
 joinC a7q (v1.1, v1.2.1, v1.2.1 == 8)
 else
 if (v1.2.1 == 19) then
 joinC a7q (v1.1, v1.2.1, v1.2.1 == 19)
 else
 joinC a7q (v1.1, v1.2.1, v1.2.1 == 20)
def a89 (a0 : Int) (a1 : List Int) : Option (Int × Bool) :=
 if (a0 == 4) then
 joinC b56 (a1, a0, a0 == 4)
 else
 joinC b56 (a1, a0, a0 == 6)
structure Ring_typing_infer where
  f_typing_infer : Expr -> (List Binding) -> Option (Int × Int)
def a88 (R : Ring_typing_infer) (a0 : Expr) (a1 : List Binding) (r3 : (Expr × (List Int) × Int) -> Option (Int × Int)) (v2 : Expr × (List Int) × Int) : Option (Int × Int) :=
 if (decide (v2.2.2 < (a0.Args.length : Int))) then
 (l8 a0.Args v2.2.2).bind fun v4 =>
 (R.f_typing_infer v4 a1).bind fun v5 =>
 if (v5.2 != 0) then
 some (0, v5.2)
 else
 (a8w 8 v2.2.1 [v5.1]).bind fun v6 =>
 r3 (v2.1, v6, i64 (v2.2.2 + 1))
 else
 (a89 v2.1.Op v2.2.1).bind fun v7 =>
 if (!v7.2) then
 some (0, 6)
 else
 some (v7.1, 0)
def a2m (R : Ring_typing_infer) (a0 : Expr) (a1 : List Binding) : Option (Int × Int) :=
 if (a0.Op == 1) then
 some (a0.Dim, 0)
 else
 if (a0.Op == 3) then
 some (4, 0)
 else
 if (a0.Op == 2) then
 (a55 a0.Name a1).bind fun v1 =>
 if (!v1.2) then
 some (0, 5)
 else
 some (v1.1, 0)
 else
 d9 FU (a88 R a0 a1) (a0, [], 0)
def s4 : Nat -> Ring_typing_infer
  | 0 => ⟨fun _ _ => none⟩
  | n + 1 => ⟨a2m (s4 n)⟩
def c14 (a0 : Expr) (a1 : List Binding) : Option (Int × Int) := (s4 FU).f_typing_infer a0 a1
def o5 (a0 : List Binding) (r2 : Int -> Option Int) (v1 : Int) : Option Int :=
 if (decide (v1 < (a0.length : Int))) then
 (l8 a0 v1).bind fun v3 =>
 (b3f v3).bind fun v4 =>
 if v4 then
 some v1
 else
 r2 (i64 (v1 + 1))
 else
 some (-1 : Int)
def w6 (a0 : List Binding) : Option Int :=
 d9 FU (o5 a0) 0
def o4 (a0 : List Binding) : Option Bool :=
 (w6 a0).bind fun v1 =>
 some (decide (v1 >= 0))
def b0f (a0 : Expr) (a1 : List Binding) : Option (Int × Int) :=
 (a09 a0).bind fun v1 =>
 (if (!v1) then some true else (o4 a1).bind fun v2 =>
 some v2).bind fun v3 =>
 if v3 then
 some (0, 1)
 else
 (c14 a0 a1).bind fun v4 =>
 some (v4.1, v4.2)
def a43 (a0 : List Binding) (a1_0 : Let) (r2 : Int -> Option Int) (v1 : Int) : Option Int :=
 if (decide (v1 < (a0.length : Int))) then
 (l8 a0 v1).bind fun v3 =>
 (b9g v3 a1_0).bind fun v4 =>
 if v4 then
 some v1
 else
 r2 (i64 (v1 + 1))
 else
 some (-1 : Int)
def a15 (a0 : List Binding) (a1_0 : Let) : Option Int :=
 d9 FU (a43 a0 a1_0) 0
def p4 (a0 : List Binding) (a1_0 : Let) : Option Bool :=
 (a15 a0 a1_0).bind fun v1 =>
 some (decide (v1 >= 0))
def a5n (a0 : List Let) (r2 : ((List Binding) × Int) -> Option ((List Binding) × Int)) (v1 : (List Binding) × Int) : Option ((List Binding) × Int) :=
 if (decide (v1.2 < (a0.length : Int))) then
 (l8 a0 v1.2).bind fun v3 =>
 (a6d v3.Name).bind fun v4 =>
 (if v4.2 then some true else (b1j v3.Name).bind fun v5 =>
 some (!v5)).bind fun v6 =>
 if v6 then
 some ([], 5)
 else
 (p4 v1.1 v3).bind fun v7 =>
 if v7 then
 some ([], 10)
 else
 (b0f v3.Body v1.1).bind fun v8 =>
 if (v8.2 != 0) then
 some ([], v8.2)
 else
 (a8w 24 v1.1 [(⟨v3.Name, v8.1⟩ : Binding)]).bind fun v9 =>
 r2 (v9, i64 (v1.2 + 1))
 else
 some (v1.1, 0)
def b2c (a0 : List Let) : Option ((List Binding) × Int) :=
 if (decide ((a0.length : Int) > 10)) then
 some ([], 7)
 else
 d9 FU (a5n a0) ([], 0)
def b0p (a0 : Credit) (a1 : Credit) : Option Bool :=
 some (a0.Kind == a1.Kind)
def b0v (a0 : Grant) (a1 : Grant) : Option Bool :=
 some (a0.Benefit == a1.Benefit)
def b24 (a0 : Expr) (a1 : List Binding) (a2 : Int) : Option Int :=
 (b0f a0 a1).bind fun v1 =>
 if (v1.2 != 0) then
 some v1.2
 else
 if (v1.1 != a2) then
 some 6
 else
 some 0
def b0u (a0 : Reduce) (a1 : Reduce) : Option Bool :=
 some (a0.Benefit == a1.Benefit)
def n9 (a0 : List Credit) (a1_0 : Credit) (r2 : Int -> Option Int) (v1 : Int) : Option Int :=
 if (decide (v1 < (a0.length : Int))) then
 (l8 a0 v1).bind fun v3 =>
 (b0p v3 a1_0).bind fun v4 =>
 if v4 then
 some v1
 else
 r2 (i64 (v1 + 1))
 else
 some (-1 : Int)
def u4 (a0 : List Credit) (a1_0 : Credit) : Option Int :=
 d9 FU (n9 a0 a1_0) 0
def n6 (a0 : List Credit) (a1_0 : Credit) : Option Bool :=
 (u4 a0 a1_0).bind fun v1 =>
 some (decide (v1 >= 0))
def o7 (a0 : List Grant) (a1_0 : Grant) (r2 : Int -> Option Int) (v1 : Int) : Option Int :=
 if (decide (v1 < (a0.length : Int))) then
 (l8 a0 v1).bind fun v3 =>
 (b0v v3 a1_0).bind fun v4 =>
 if v4 then
 some v1
 else
 r2 (i64 (v1 + 1))
 else
 some (-1 : Int)
def w7 (a0 : List Grant) (a1_0 : Grant) : Option Int :=
 d9 FU (o7 a0 a1_0) 0
def o8 (a0 : List Grant) (a1_0 : Grant) : Option Bool :=
 (w7 a0 a1_0).bind fun v1 =>
 some (decide (v1 >= 0))
def m8 (a0 : List Reduce) (a1_0 : Reduce) (r2 : Int -> Option Int) (v1 : Int) : Option Int :=
 if (decide (v1 < (a0.length : Int))) then
 (l8 a0 v1).bind fun v3 =>
 (b0u v3 a1_0).bind fun v4 =>
 if v4 then
 some v1
 else
 r2 (i64 (v1 + 1))
 else
 some (-1 : Int)
def u6 (a0 : List Reduce) (a1_0 : Reduce) : Option Int :=
 d9 FU (m8 a0 a1_0) 0
def n8 (a0 : List Reduce) (a1_0 : Reduce) : Option Bool :=
 (u6 a0 a1_0).bind fun v1 =>
 some (decide (v1 >= 0))
def a6q (v12 : Version × (List Binding) × Int) (r20 : (Version × (List Binding) × Int) -> Option Int) (v19 : Version × (List Binding) × Int) : Option Int :=
 if (decide (v19.2.2 < (v12.1.Reduces.length : Int))) then
 (l8 v12.1.Reduces v19.2.2).bind fun v21 =>
 (a3w v19.1.Reduces 0 v19.2.2).bind fun v22 =>
 (n8 v22 v21).bind fun v23 =>
 if v23 then
 some 10
 else
 (b24 v21.By v19.2.1 2).bind fun v24 =>
 if (v24 != 0) then
 some v24
 else
 r20 (v19.1, v19.2.1, i64 (v19.2.2 + 1))
 else
 some 0
def a73 (v7 : Version × (List Binding) × Int) (r13 : (Version × (List Binding) × Int) -> Option Int) (v12 : Version × (List Binding) × Int) : Option Int :=
 if (decide (v12.2.2 < (v7.1.Grants.length : Int))) then
 (l8 v7.1.Grants v12.2.2).bind fun v14 =>
 (a3w v12.1.Grants 0 v12.2.2).bind fun v15 =>
 (o8 v15 v14).bind fun v16 =>
 if v16 then
 some 10
 else
 (b24 v14.If v12.2.1 1).bind fun v17 =>
 if (v17 != 0) then
 some v17
 else
 (b24 v14.Pay v12.2.1 4).bind fun v18 =>
 if (v18 != 0) then
 some v18
 else
 r13 (v12.1, v12.2.1, i64 (v12.2.2 + 1))
 else
 d9 FU (a6q v12) (v12.1, v12.2.1, 0)
def a6p (v2 : Version × (List Binding) × Int) (r8 : (Version × (List Binding) × Int) -> Option Int) (v7 : Version × (List Binding) × Int) : Option Int :=
 if (decide (v7.2.2 < (v2.1.Series.length : Int))) then
 (l8 v2.1.Series v7.2.2).bind fun v9 =>
 (if (decide (v7.2.2 > 0)) then (l8 v7.1.Series (i64 (v7.2.2 - 1))).bind fun v10 =>
 some (decide (v9.Year <= v10.Year)) else some false).bind fun v11 =>
 if v11 then
 some 1
 else
 r8 (v7.1, v7.2.1, i64 (v7.2.2 + 1))
 else
 d9 FU (a73 v7) (v7.1, v7.2.1, 0)
def a6x (a0 : Version) (r3 : (Version × (List Binding) × Int) -> Option Int) (v2 : Version × (List Binding) × Int) : Option Int :=
 if (decide (v2.2.2 < (a0.Credits.length : Int))) then
 (l8 a0.Credits v2.2.2).bind fun v4 =>
 (a3w v2.1.Credits 0 v2.2.2).bind fun v5 =>
 (n6 v5 v4).bind fun v6 =>
 if v6 then
 some 10
 else
 r3 (v2.1, v2.2.1, i64 (v2.2.2 + 1))
 else
 d9 FU (a6p v2) (v2.1, v2.2.1, 0)
def a9u (a0 : Version) : Option Int :=
 (b2c a0.Lets).bind fun v1 =>
 if (v1.2 != 0) then
 some v1.2
 else
 d9 FU (a6x a0) (a0, v1.1, 0)
def a9o (a0 : Statute) (r3 : (Statute × Int) -> Option (Int × Int)) (v2 : Statute × Int) : Option (Int × Int) :=
 if (decide (v2.2 < (a0.Versions.length : Int))) then
 (l8 a0.Versions v2.2).bind fun v4 =>
 (if (decide (v2.2 > 0)) then (l8 v2.1.Versions (i64 (v2.2 - 1))).bind fun v5 =>
 some (decide (v4.From <= v5.From)) else some false).bind fun v6 =>
 if v6 then
 some (v2.2, 1)
 else
 (a9u v4).bind fun v7 =>
 if (v7 != 0) then
 some (v2.2, v7)
 else
 r3 (v2.1, i64 (v2.2 + 1))
 else
 some (0, 0)
def a4n (a0 : Statute) : Option (Int × Int) :=
 (b2u a0).bind fun v1 =>
 if (!v1) then
 some (0, 1)
 else
 d9 FU (a9o a0) (a0, 0)
def a6w (a0 : Int) (a1 : Int) : Option Bool :=
 (if (decide (a0 >= 0)) then some (decide (a0 <= a1)) else some false).bind fun v1 =>
 some v1
def b1o (a0 : Rules) (r9 : (Rules × Int) -> Option Bool) (v8 : Rules × Int) : Option Bool :=
 if (decide (v8.2 < (a0.Members.length : Int))) then
 (l8 a0.Members v8.2).bind fun v10 =>
 (a6w v10 5).bind fun v11 =>
 (if (!v11) then some true else (if (decide (v8.2 > 0)) then (l8 v8.1.Members (i64 (v8.2 - 1))).bind fun v12 =>
 some (decide (v10 <= v12)) else some false).bind fun v13 =>
 some v13).bind fun v14 =>
 if v14 then
 some false
 else
 r9 (v8.1, i64 (v8.2 + 1))
 else
 some true
def a4k (a0 : Rules) : Option Bool :=
 (a3h a0.From).bind fun v1 =>
 (if (!v1) then some true else (a6w a0.MinDays 73049).bind fun v2 =>
 some (!v2)).bind fun v3 =>
 (if v3 then some true else (a6w a0.PostingLimit 73049).bind fun v4 =>
 some (!v4)).bind fun v5 =>
 (if v5 then some true else (a6w a0.Substantial 100).bind fun v6 =>
 some (!v6)).bind fun v7 =>
 if v7 then
 some false
 else
 d9 FU (b1o a0) (a0, 0)
def a1l (a0 : List Rules) (r4 : Int -> Option Int) (v3 : Int) : Option Int :=
 if (decide (v3 < (a0.length : Int))) then
 (l8 a0 v3).bind fun v5 =>
 (a4k v5).bind fun v6 =>
 (if (!v6) then some true else (if (decide (v3 > 0)) then (l8 a0 (i64 (v3 - 1))).bind fun v7 =>
 some (decide (v5.From <= v7.From)) else some false).bind fun v8 =>
 some v8).bind fun v9 =>
 if v9 then
 some 1
 else
 r4 (i64 (v3 + 1))
 else
 some 0
def b0e (a0 : List Rules) : Option Int :=
 if (decide ((a0.length : Int) > 8)) then
 some 7
 else
 (if ((a0.length : Int) == 0) then some true else (l8 a0 0).bind fun v1 =>
 some (v1.From != 0)).bind fun v2 =>
 if v2 then
 some 1
 else
 d9 FU (a1l a0) 0
def b77 (a0 : Int) : Option Bool :=
 (if (decide (a0 >= 1)) then some (decide (a0 <= 999)) else some false).bind fun v1 =>
 some v1
def a3s (a0 : Int) : Option Bool :=
 (if (decide (a0 >= 0)) then some (decide (a0 <= 2399)) else some false).bind fun v1 =>
 some v1
def b1i (a0 : Int) : Option Bool :=
 (b2j a0 4).bind fun v1 =>
 (if (v1 == 0) then (b2j a0 100).bind fun v2 =>
 some (v2 != 0) else some false).bind fun v3 =>
 (if v3 then some true else (b2j a0 400).bind fun v4 =>
 some (v4 == 0)).bind fun v5 =>
 some v5
def y6 (a0 : Int) (a1 : Int) : Option Int :=
 (if (a1 == 2) then (b1i a0).bind fun v1 =>
 some v1 else some false).bind fun v2 =>
 if v2 then
 some 29
 else
 (l8 (⟨[31, 28, 31, 30, 31, 30, 31, 31, 30, 31, 30, 31], rfl⟩ : Ar 12 Int).l (i64 (a1 - 1))).bind fun v3 =>
 (l8 (⟨[31, 28, 31, 30, 31, 30, 31, 31, 30, 31, 30, 31], rfl⟩ : Ar 12 Int).l (i64 (a1 - 1))).bind fun v4 =>
 some v4
def b2m (a0 : Int) : Option Int :=
 (a3s a0).bind fun v1 =>
 if (!v1) then
 some 0
 else
 (b5i a0 12).bind fun v2 =>
 (b2j a0 12).bind fun v3 =>
 (y6 (i64 (1900 + v2)) (i64 (v3 + 1))).bind fun v4 =>
 some v4
def c30 (a0 : Int) : Option Bool :=
 (b2m a0).bind fun v1 =>
 some (decide (v1 > 0))
def b52 (a0 : Int) : Option Int :=
 if (decide (a0 < 0)) then
 some (u64 (-(u64 (a0))))
 else
 some (u64 (a0))
def c2i (r2 : (Int × Int) -> Option Int) (v1 : Int × Int) : Option Int :=
 if (v1.2 != 0) then
 (b2j v1.1 v1.2).bind fun v3 =>
 r2 (v1.2, v3)
 else
 some v1.1
def c0w (a0 : Int) (a1 : Int) : Option Int :=
 d9 FU c2i (a0, a1)
def b75 (a0 : Fraction) : Option Bool :=
 (if (decide (a0.Den >= 1)) then some (decide (a0.Den <= 1000000000)) else some false).bind fun v1 =>
 (if v1 then some (decide (a0.Num >= (-1000000000000000 : Int))) else some false).bind fun v2 =>
 (if v2 then some (decide (a0.Num <= 1000000000000000)) else some false).bind fun v3 =>
 (if v3 then (b52 a0.Num).bind fun v4 =>
 (b52 a0.Den).bind fun v5 =>
 (c0w v4 v5).bind fun v6 =>
 some (v6 == 1) else some false).bind fun v7 =>
 some v7
def b7s (a0 : Int) : Option Bool :=
 (if (decide (a0 >= 1)) then some (decide (a0 <= 1000000)) else some false).bind fun v1 =>
 some v1
def b7e (a0 : List Rate) (r2 : Int -> Option Int) (v1 : Int) : Option Int :=
 if (decide (v1 < (a0.length : Int))) then
 (l8 a0 v1).bind fun v3 =>
 (b77 v3.Currency).bind fun v4 =>
 (if (!v4) then some true else (c30 v3.Month).bind fun v5 =>
 some (!v5)).bind fun v6 =>
 (if v6 then some true else (b75 v3.Value).bind fun v7 =>
 some (!v7)).bind fun v8 =>
 (if v8 then some true else (b7s v3.Value.Num).bind fun v9 =>
 some (!v9)).bind fun v10 =>
 (if v10 then some true else (b7s v3.Value.Den).bind fun v11 =>
 some (!v11)).bind fun v12 =>
 if v12 then
 some 1
 else
 (if (decide (v1 > 0)) then (l8 a0 (i64 (v1 - 1))).bind fun v13 =>
 (if (decide (v13.Currency > v3.Currency)) then some true else (l8 a0 (i64 (v1 - 1))).bind fun v14 =>
 (if (v14.Currency == v3.Currency) then (l8 a0 (i64 (v1 - 1))).bind fun v15 =>
 some (decide (v15.Month >= v3.Month)) else some false).bind fun v16 =>
 some v16).bind fun v17 =>
 some v17 else some false).bind fun v18 =>
 if v18 then
 some 1
 else
 r2 (i64 (v1 + 1))
 else
 some 0
def a7n (a0 : List Rate) : Option Int :=
 if (decide ((a0.length : Int) > 40)) then
 some 7
 else
 d9 FU (b7e a0) 0
def a7g (v1 : Laws × Int) (r9 : (Laws × Int) -> Option Int) (v8 : Laws × Int) : Option Int :=
 if (decide (v8.2 < (v1.1.States.length : Int))) then
 (l8 v1.1.States v8.2).bind fun v10 =>
 (a4n v10.Statute).bind fun v11 =>
 if (v11.2 != 0) then
 some v11.2
 else
 r9 (v8.1, i64 (v8.2 + 1))
 else
 (b0e v8.1.Treaty).bind fun v12 =>
 if (v12 != 0) then
 some v12
 else
 (a7n v8.1.Rates).bind fun v13 =>
 some v13
def b3l (a0 : Laws) (r2 : (Laws × Int) -> Option Int) (v1 : Laws × Int) : Option Int :=
 if (decide (v1.2 < (a0.States.length : Int))) then
 (l8 a0.States v1.2).bind fun v3 =>
 (if (decide (v3.State < 0)) then some true else some (decide (v3.State >= 6))).bind fun v4 =>
 (if v4 then some true else (if (decide (v1.2 > 0)) then (l8 v1.1.States (i64 (v1.2 - 1))).bind fun v5 =>
 some (decide (v3.State <= v5.State)) else some false).bind fun v6 =>
 some v6).bind fun v7 =>
 if v7 then
 some 1
 else
 r2 (v1.1, i64 (v1.2 + 1))
 else
 d9 FU (a7g v1) (v1.1, 0)
def a9s (a0 : Laws) : Option Int :=
 d9 FU (b3l a0) (a0, 0)
def b2p (v3 : Int × Bool) : Option ByteArray :=
 if v3.2 then
 some b5j
 else
 if (v3.1 == 14) then
 some c0q
 else
 some a1f
def b03 (v2 : Int × Bool) : Option ByteArray :=
 if v2.2 then
 some a6h
 else
 if (v2.1 == 6) then
 some b2o
 else
 if (v2.1 == 10) then
 some b66
 else
 if (v2.1 == 11) then
 joinC b2p (v2.1, v2.1 == 11)
 else
 if (v2.1 == 12) then
 joinC b2p (v2.1, v2.1 == 12)
 else
 joinC b2p (v2.1, v2.1 == 13)
def b62 (v1 : Int × Bool) : Option ByteArray :=
 if v1.2 then
 some a4x
 else
 if (v1.1 == 4) then
 some b6f
 else
 if (v1.1 == 5) then
 joinC b03 (v1.1, v1.1 == 5)
 else
 if (v1.1 == 7) then
 joinC b03 (v1.1, v1.1 == 7)
 else
 if (v1.1 == 8) then
 joinC b03 (v1.1, v1.1 == 8)
 else
 joinC b03 (v1.1, v1.1 == 9)
def a8u (a0 : Int) : Option ByteArray :=
 if (a0 == 1) then
 some a81
 else
 if (a0 == 2) then
 joinC b62 (a0, a0 == 2)
 else
 joinC b62 (a0, a0 == 3)
def b8t (a0 : ByteArray) (a1 : ByteArray) : Option Int :=
 (a4w a0 a1).bind fun v1 =>
 some v1
def b5b (a0 : ByteArray) (a1 : ByteArray) : Option Bool :=
 (b8t a0 a1).bind fun v1 =>
 some (decide (v1 >= 0))
def a0f (a0 : ByteArray) (a1 : ByteArray) : Option Bool :=
 (b5b a1 a0).bind fun v1 =>
 some v1
def a69 (a0 : Int) (a1 : Int) (a2 : Int) : Option Bool :=
 (if (decide (a0 >= a1)) then some (decide (a0 <= a2)) else some false).bind fun v1 =>
 some v1
def a6u (a0 : Bool) (a1 : Int) (a2 : Int) (a3 : Int) : Option Bool :=
 (if a0 then (a69 a1 a2 a3).bind fun v1 =>
 some v1 else some false).bind fun v2 =>
 (if v2 then some true else (if (!a0) then some (a1 == 0) else some false).bind fun v3 =>
 some v3).bind fun v4 =>
 some v4
def b3g (a0 : Span) : Option Bool :=
 (if (decide (a0.From >= 0)) then some (decide (a0.From < a0.To)) else some false).bind fun v1 =>
 (if v1 then some (decide (a0.To <= 73049)) else some false).bind fun v2 =>
 some v2
def b4y (v29 : api_Fact × Bool) : Option Bool :=
 if v29.2 then
 some (v29.1.Ref != v29.1.Person)
 else
 some true
def b4h (v28 : api_Fact × Int × Bool) : Option Bool :=
 if v28.2.2 then
 some (v28.1.Span.To == (i64 (v28.1.Span.From + 1)))
 else
 if (v28.2.1 == 10) then
 joinC b4y (v28.1, v28.2.1 == 10)
 else
 joinC b4y (v28.1, v28.2.1 == 14)
def a4u (a0 : api_Fact) : Option Bool :=
 (a8u a0.Kind).bind fun v1 =>
 (if (v1.toList == a1f.toList) then some true else (a69 a0.Issuer 0 5).bind fun v2 =>
 some (!v2)).bind fun v3 =>
 (if v3 then some true else (a69 a0.Number 1 999).bind fun v4 =>
 some (!v4)).bind fun v5 =>
 (if v5 then some true else (a69 a0.Version 1 99).bind fun v6 =>
 some (!v6)).bind fun v7 =>
 (if v7 then some true else (a69 a0.Person 1 99).bind fun v8 =>
 some (!v8)).bind fun v9 =>
 if v9 then
 some false
 else
 (a0f f1g v1).bind fun v10 =>
 (a6u v10 a0.State 0 5).bind fun v11 =>
 (if (!v11) then some true else (a0f f3t v1).bind fun v12 =>
 (a6u v12 a0.Seat 0 5).bind fun v13 =>
 some (!v13)).bind fun v14 =>
 (if v14 then some true else (b3g a0.Span).bind fun v15 =>
 some (!v15)).bind fun v16 =>
 if v16 then
 some false
 else
 (a0f f40 v1).bind fun v17 =>
 (a6u v17 a0.Share 1 100).bind fun v18 =>
 (if (!v18) then some true else (a0f f4y v1).bind fun v19 =>
 (a6u v19 a0.Currency 1 999).bind fun v20 =>
 some (!v20)).bind fun v21 =>
 (if v21 then some true else (a0f f1m v1).bind fun v22 =>
 (a6u v22 a0.Amount 0 1000000000).bind fun v23 =>
 some (!v23)).bind fun v24 =>
 (if v24 then some true else (a0f f2u v1).bind fun v25 =>
 (a6u v25 a0.Ref 1 99).bind fun v26 =>
 some (!v26)).bind fun v27 =>
 if v27 then
 some false
 else
 if (a0.Kind == 4) then
 some (a0.State != a0.Seat)
 else
 if (a0.Kind == 11) then
 joinC b4h (a0, a0.Kind, a0.Kind == 11)
 else
 joinC b4h (a0, a0.Kind, a0.Kind == 12)
def a5i (a0 : Int) : Option Bool :=
 some (a0 != a0)
def o6 (a0 : Int) (a1 : Int) : Option Int :=
 (a5i a0).bind fun v1 =>
 (a5i a1).bind fun v2 =>
 if v1 then
 if v2 then
 some 0
 else
 some (-1 : Int)
 else
 if v2 then
 some 1
 else
 if (decide (a0 < a1)) then
 some (-1 : Int)
 else
 if (decide (a0 > a1)) then
 some 1
 else
 some 0
def a47 (a0 : List Int) (r2 : Int -> Option Int) (v1 : Int) : Option Int :=
 if (decide (v1 < (a0.length : Int))) then
 (l8 a0 v1).bind fun v3 =>
 if (v3 != 0) then
 some v3
 else
 r2 (i64 (v1 + 1))
 else
 some 0
def a4f (a0 : List Int) : Option Int :=
 d9 FU (a47 a0) 0
def a6v (a0 : api_Fact) (a1 : api_Fact) : Option Int :=
 (o6 a0.Issuer a1.Issuer).bind fun v1 =>
 (o6 a0.Number a1.Number).bind fun v2 =>
 (a4f [v1, v2]).bind fun v3 =>
 some v3
def a6f (v3 : Int) (r2 : ((List Int) × Int) -> Option (List Int)) (v1 : (List Int) × Int) (r5 : ((List Int) × Int) -> Option (List Int)) (v4 : (List Int) × Int) : Option (List Int) :=
 if (decide (v4.2 >= 0)) then
 (d68 .i64 v3 (i64 (8 * v4.2))).bind fun v6 =>
 (a8w 1 v4.1 [IntKind.u8.wrap (v6)]).bind fun v7 =>
 r5 (v7, i64 (v4.2 - 1))
 else
 r2 (v4.1, i64 (v1.2 + 1))
def a4i (a2 : List Int) (a1 : Int) (r2 : ((List Int) × Int) -> Option (List Int)) (v1 : (List Int) × Int) : Option (List Int) :=
 if (decide (v1.2 < (a2.length : Int))) then
 (l8 a2 v1.2).bind fun v3 =>
 d9 FU (a6f v3 r2 v1) (v1.1, i64 (a1 - 1))
 else
 some v1.1
def l6 (a0 : List Int) (a1 : Int) (a2 : List Int) : Option (List Int) :=
 d9 FU (a4i a2 a1) (a0, 0)
def b1h (r8 : (api_Fact × (List Int) × (ByteArray × Int)) -> Option (List Int)) (v7 : api_Fact × (List Int) × (ByteArray × Int)) : Option (List Int) :=
 optC (c2q v7.2.2.1 v7.2.2.2) (some v7.2.1) fun v9 =>
 (v9).bind fun v10 =>
 if (v10 == 83) then
 (l6 v7.2.1 1 [v7.1.State]).bind fun v11 =>
 r8 (v7.1, v11, (v7.2.2.1, v7.2.2.2 + 1))
 else
 if (v10 == 80) then
 (l6 v7.2.1 3 [v7.1.Span.From, v7.1.Span.To]).bind fun v12 =>
 r8 (v7.1, v12, (v7.2.2.1, v7.2.2.2 + 1))
 else
 if (v10 == 84) then
 (l6 v7.2.1 1 [v7.1.Seat]).bind fun v13 =>
 r8 (v7.1, v13, (v7.2.2.1, v7.2.2.2 + 1))
 else
 if (v10 == 72) then
 (l6 v7.2.1 1 [v7.1.Share]).bind fun v14 =>
 r8 (v7.1, v14, (v7.2.2.1, v7.2.2.2 + 1))
 else
 if (v10 == 67) then
 (l6 v7.2.1 2 [v7.1.Currency]).bind fun v15 =>
 r8 (v7.1, v15, (v7.2.2.1, v7.2.2.2 + 1))
 else
 if (v10 == 65) then
 (l6 v7.2.1 4 [v7.1.Amount]).bind fun v16 =>
 r8 (v7.1, v16, (v7.2.2.1, v7.2.2.2 + 1))
 else
 if (v10 == 82) then
 (l6 v7.2.1 1 [v7.1.Ref]).bind fun v17 =>
 r8 (v7.1, v17, (v7.2.2.1, v7.2.2.2 + 1))
 else
 r8 (v7.1, v7.2.1, (v7.2.2.1, v7.2.2.2 + 1))
def b1n (v2 : api_Fact × Int) : Option (List Int) :=
 (l6 [] 1 [v2.1.Issuer]).bind fun v3 =>
 (l6 v3 2 [v2.1.Number]).bind fun v4 =>
 (l6 v4 1 [v2.1.Version, v2.2, v2.1.Person, v2.1.Kind]).bind fun v5 =>
 (a8u v2.1.Kind).bind fun v6 =>
 d9 FU b1h (v2.1, v5, (v6, 0))
def b3q (a0 : api_Fact) : Option (List Int) :=
 (a4u a0).bind fun v1 =>
 if (!v1) then
 some []
 else
 if a0.Withdrawn then
 joinC b1n (a0, 1)
 else
 joinC b1n (a0, 0)
def b53 (a0 : List Int) (a1 : List Int) : Option Int :=
 (b1z a0 a1).bind fun v1 =>
 some v1
def b8v (a0 : api_Fact) (a1 : api_Fact) : Option Bool :=
 (a4u a0).bind fun v1 =>
 (if (!v1) then some true else (a4u a1).bind fun v2 =>
 some (!v2)).bind fun v3 =>
 if v3 then
 some false
 else
 (b3q a0).bind fun v4 =>
 (b3q a1).bind fun v5 =>
 (b53 v4 v5).bind fun v6 =>
 some (decide (v6 < 0))
def a9v (a0 : api_Fact) (a1 : api_Fact) : Option api_Fact :=
 (b8v a0 a1).bind fun v1 =>
 if v1 then
 some a1
 else
 some a0
def g8 (r2 : ((List api_Fact) × (List api_Fact) × (List api_Fact)) -> Option (List api_Fact)) (v1 : (List api_Fact) × (List api_Fact) × (List api_Fact)) : Option (List api_Fact) :=
 (if (decide ((v1.1.length : Int) > 0)) then some (decide ((v1.2.1.length : Int) > 0)) else some false).bind fun v3 =>
 if v3 then
 (l8 v1.1 0).bind fun v4 =>
 (l8 v1.2.1 0).bind fun v5 =>
 (a6v v4 v5).bind fun v6 =>
 if (decide (v6 < 0)) then
 (l8 v1.1 0).bind fun v7 =>
 (a8w 112 v1.2.2 [v7]).bind fun v8 =>
 (a3w v1.1 1 (v1.1.length : Int)).bind fun v9 =>
 r2 (v9, v1.2.1, v8)
 else
 if (decide (v6 > 0)) then
 (l8 v1.2.1 0).bind fun v10 =>
 (a8w 112 v1.2.2 [v10]).bind fun v11 =>
 (a3w v1.2.1 1 (v1.2.1.length : Int)).bind fun v12 =>
 r2 (v1.1, v12, v11)
 else
 (l8 v1.1 0).bind fun v13 =>
 (l8 v1.2.1 0).bind fun v14 =>
 (a9v v13 v14).bind fun v15 =>
 (a8w 112 v1.2.2 [v15]).bind fun v16 =>
 (a3w v1.1 1 (v1.1.length : Int)).bind fun v17 =>
 (a3w v1.2.1 1 (v1.2.1.length : Int)).bind fun v18 =>
 r2 (v17, v18, v16)
 else
 (a8w 112 v1.2.2 v1.1).bind fun v19 =>
 (a8w 112 v19 v1.2.1).bind fun v20 =>
 some v20
def g9 (a0 : List api_Fact) (a1 : List api_Fact) : Option (List api_Fact) :=
 d9 FU g8 (a0, a1, [])
def a56 (a0 : List api_Fact) (r2 : ((List api_Fact) × Int) -> Option (List api_Fact)) (v1 : (List api_Fact) × Int) : Option (List api_Fact) :=
 if (decide (v1.2 < (a0.length : Int))) then
 (l8 a0 v1.2).bind fun v3 =>
 (a4u v3).bind fun v4 =>
 if v4 then
 (g9 v1.1 [v3]).bind fun v5 =>
 r2 (v5, i64 (v1.2 + 1))
 else
 r2 (v1.1, i64 (v1.2 + 1))
 else
 some v1.1
def a5j (a0 : List api_Fact) : Option (List api_Fact) :=
 d9 FU (a56 a0) ([], 0)
def b0j (a0 : List api_Fact) (a1 : List api_Fact) : Option (List api_Fact) :=
 (a5j a0).bind fun v1 =>
 (a5j a1).bind fun v2 =>
 (g9 v1 v2).bind fun v3 =>
 some v3
def b82 (a0 : api_Fact) (a1 : Int) : Option Bool :=
 some (a0.Person == a1)
def a2q (a0 : List api_Fact) (a1_0 : Int) (r2 : ((List api_Fact) × Int) -> Option (List api_Fact)) (v1 : (List api_Fact) × Int) : Option (List api_Fact) :=
 if (decide (v1.2 < (a0.length : Int))) then
 (l8 a0 v1.2).bind fun v3 =>
 (b82 v3 a1_0).bind fun v4 =>
 if v4 then
 (a8w 112 v1.1 [v3]).bind fun v5 =>
 r2 (v5, i64 (v1.2 + 1))
 else
 r2 (v1.1, i64 (v1.2 + 1))
 else
 some v1.1
def a3q (a0 : List api_Fact) (a1_0 : Int) : Option (List api_Fact) :=
 d9 FU (a2q a0 a1_0) ([], 0)
def b3t (a0 : List api_Fact) (a1 : Int) : Option (List api_Fact) :=
 (a3q a0 a1).bind fun v1 =>
 some v1
def a1j (a0 : Int) : Option Int :=
 if (decide ((i64 (a0 - 1900)) > 0)) then
 (b5i (i64 ((i64 (a0 - 1900)) - 1)) 4).bind fun v1 =>
 some (i64 ((i64 (365 * (i64 (a0 - 1900)))) + v1))
 else
 some (i64 (365 * (i64 (a0 - 1900))))
def a3v (a0 : Int) : Option Int :=
 (b1i a0).bind fun v1 =>
 if v1 then
 some 366
 else
 some 365
def b0o (v3 : Int) (r9 : (Int × Int) -> Option (Int × Int × Int × Bool)) (v8 : Int × Int) : Option (Int × Int × Int × Bool) :=
 (y6 v3 v8.1).bind fun v10 =>
 if (decide (v8.2 >= v10)) then
 (y6 v3 v8.1).bind fun v11 =>
 r9 (i64 (v8.1 + 1), i64 (v8.2 - v11))
 else
 some (v3, v8.1, i64 (v8.2 + 1), true)
def b0w (a0 : Int) (r4 : Int -> Option (Int × Int × Int × Bool)) (v3 : Int) : Option (Int × Int × Int × Bool) :=
 (a1j v3).bind fun v5 =>
 (a3v v3).bind fun v6 =>
 if (decide ((i64 (v5 + v6)) <= a0)) then
 r4 (i64 (v3 + 1))
 else
 (a1j v3).bind fun v7 =>
 d9 FU (b0o v3) (1, i64 (a0 - v7))
def a8s (a0 : Int) : Option (Int × Int × Int × Bool) :=
 (a3h a0).bind fun v1 =>
 if (!v1) then
 some (0, 0, 0, false)
 else
 (b5i a0 366).bind fun v2 =>
 d9 FU (b0w a0) (i64 (1900 + v2))
def a5o (a0 : Int) : Option Int :=
 (a8s a0).bind fun v1 =>
 if (!v1.2.2.2) then
 some (-1 : Int)
 else
 some (i64 ((i64 ((i64 (12 * (i64 (v1.1 - 1900)))) + v1.2.1)) - 1))
def b25 (a1 : Int) (a0 : Int) (r9 : (Int × Int) -> Option (Int × Bool)) (v8 : Int × Int) : Option (Int × Bool) :=
 if (decide (v8.2 < a1)) then
 (y6 a0 v8.2).bind fun v10 =>
 r9 (i64 (v8.1 + v10), i64 (v8.2 + 1))
 else
 some (v8.1, true)
def a6j (a0 : Int) (a1 : Int) (a2 : Int) : Option (Int × Bool) :=
 (if (decide (a0 < 1900)) then some true else some (decide (a0 > 2099))).bind fun v1 =>
 (if v1 then some true else some (decide (a1 < 1))).bind fun v2 =>
 (if v2 then some true else some (decide (a1 > 12))).bind fun v3 =>
 (if v3 then some true else some (decide (a2 < 1))).bind fun v4 =>
 (if v4 then some true else (y6 a0 a1).bind fun v5 =>
 some (decide (a2 > v5))).bind fun v6 =>
 if v6 then
 some (0, false)
 else
 (a1j a0).bind fun v7 =>
 d9 FU (b25 a1 a0) (i64 ((i64 (v7 + a2)) - 1), 1)
def a3u (a0 : Int) : Option (Int × Bool) :=
 (a3s a0).bind fun v1 =>
 if (!v1) then
 some (0, false)
 else
 (b5i a0 12).bind fun v2 =>
 (b2j a0 12).bind fun v3 =>
 (a6j (i64 (1900 + v2)) (i64 (v3 + 1)) 1).bind fun v4 =>
 some (v4.1, v4.2)
def a9h (v3 : Int) : Option (Int × Bool) :=
 if (decide (v3 > 2399)) then
 some (0, false)
 else
 some (v3, true)
def a0l (a0 : Claim) : Option (Int × Bool) :=
 (a5o a0.Day).bind fun v1 =>
 if (decide (v1 < 0)) then
 some (0, false)
 else
 (a3u v1).bind fun v2 =>
 if (decide (v2.1 < a0.Day)) then
 joinC a9h (i64 (v1 + 1))
 else
 joinC a9h v1
def a9g (v9 : Claim) : Option Bool :=
 (a0l v9).bind fun v10 =>
 some v10.2
def a6y (v11 : Claim × Bool) : Option Bool :=
 if v11.2 then
 if (v11.1.Ref != 0) then
 some false
 else
 joinC a9g v11.1
 else
 some false
def a9e (v6 : Claim × Int × Bool) : Option Bool :=
 if v6.2.2 then
 (if (decide (v6.1.Ref < 1)) then some true else some (decide (v6.1.Ref > 99))).bind fun v7 =>
 (if v7 then some true else some (v6.1.Ref == v6.1.Person)).bind fun v8 =>
 if v8 then
 some false
 else
 joinC a9g v6.1
 else
 if (v6.2.1 == 1) then
 joinC a6y (v6.1, v6.2.1 == 1)
 else
 if (v6.2.1 == 2) then
 joinC a6y (v6.1, v6.2.1 == 2)
 else
 joinC a6y (v6.1, v6.2.1 == 5)
def a2n (a0 : Claim) : Option Bool :=
 (if (decide (a0.Issuer < 0)) then some true else some (decide (a0.Issuer >= 6))).bind fun v1 =>
 (if v1 then some true else some (decide (a0.Number < 1))).bind fun v2 =>
 (if v2 then some true else some (decide (a0.Number > 999))).bind fun v3 =>
 (if v3 then some true else some (decide (a0.Person < 1))).bind fun v4 =>
 (if v4 then some true else some (decide (a0.Person > 99))).bind fun v5 =>
 if v5 then
 some false
 else
 if (a0.Benefit == 3) then
 joinC a9e (a0, a0.Benefit, a0.Benefit == 3)
 else
 joinC a9e (a0, a0.Benefit, a0.Benefit == 4)
def c1n (a0 : Int) : Option Int :=
 (c08 a0).bind fun v1 =>
 some v1
def a34 (a0 : Claim) (a1 : Claim) : Option Int :=
 (o6 a0.Issuer a1.Issuer).bind fun v1 =>
 (o6 a0.Number a1.Number).bind fun v2 =>
 (o6 a0.Day a1.Day).bind fun v3 =>
 (o6 a0.Person a1.Person).bind fun v4 =>
 (o6 a0.Benefit a1.Benefit).bind fun v5 =>
 (o6 a0.Ref a1.Ref).bind fun v6 =>
 (a4f [v1, v2, v3, v4, v5, v6]).bind fun v7 =>
 some v7
def a02 (r9 : ((List Claim) × Int × Int × (Int × Nat)) -> Option (List Claim)) (v8 : (List Claim) × Int × Int × (Int × Nat)) : Option (List Claim) :=
 if (decide (v8.2.2.1 < (v8.2.2.2.2 : Int))) then
 (c1f v8.1 v8.2.2.2.1 v8.2.2.1).bind fun v10 =>
 (l8 v8.1 (v8.2.2.2.1 + v8.2.2.1)).bind fun v11 =>
 (c1f v8.1 v8.2.2.2.1 (i64 (v8.2.2.1 - 1))).bind fun v12 =>
 (l8 v8.1 (v8.2.2.2.1 + (i64 (v8.2.2.1 - 1)))).bind fun v13 =>
 if (!((v11.Issuer == v13.Issuer) && ((v11.Number == v13.Number) && ((v11.Person == v13.Person) && ((v11.Benefit == v13.Benefit) && ((v11.Ref == v13.Ref) && ((v11.Day == v13.Day) && (true)))))))) then
 (c1f v8.1 v8.2.2.2.1 v8.2.2.1).bind fun v14 =>
 (l8 v8.1 (v8.2.2.2.1 + v8.2.2.1)).bind fun v15 =>
 (l8 v8.1 v8.2.1).bind fun v16 =>
 (l8 v8.1 v8.2.1).bind fun v17 =>
 r9 (b0x v8.1 v8.2.1 v15, i64 (v8.2.1 + 1), i64 (v8.2.2.1 + 1), (v8.2.2.2.1, v8.2.2.2.2))
 else
 r9 (v8.1, v8.2.1, i64 (v8.2.2.1 + 1), (v8.2.2.2.1, v8.2.2.2.2))
 else
 (a3w v8.1 v8.2.1 (v8.1.length : Int)).bind fun v18 =>
 (f3h (⟨0, 0, 0, 0, 0, 0⟩ : Claim) v8.1 v8.2.1 v18.length).bind fun v19 =>
 (a3w v19 0 v8.2.1).bind fun v20 =>
 some v20
def s8 (r2 : ((List Claim) × Int) -> Option (List Claim)) (v1 : (List Claim) × Int) : Option (List Claim) :=
 if (decide (v1.2 < (v1.1.length : Int))) then
 (l8 v1.1 v1.2).bind fun v3 =>
 (l8 v1.1 v1.2).bind fun v4 =>
 (l8 v1.1 (i64 (v1.2 - 1))).bind fun v5 =>
 (l8 v1.1 (i64 (v1.2 - 1))).bind fun v6 =>
 if ((v4.Issuer == v6.Issuer) && ((v4.Number == v6.Number) && ((v4.Person == v6.Person) && ((v4.Benefit == v6.Benefit) && ((v4.Ref == v6.Ref) && ((v4.Day == v6.Day) && (true))))))) then
 (a3w v1.1 v1.2 (v1.1.length : Int)).bind fun v7 =>
 d9 FU a02 (v1.1, v1.2, 1, (v1.2, v7.length))
 else
 r2 (v1.1, i64 (v1.2 + 1))
 else
 some v1.1
def a1o (a0 : List Claim) : Option (List Claim) :=
 if (decide ((a0.length : Int) < 2)) then
 some a0
 else
 d9 FU s8 (a0, 1)
def a1y (a1 : Int) (r2 : ((List Claim) × Int) -> Option (List Claim)) (v1 : (List Claim) × Int) (r4 : ((List Claim) × Int) -> Option (List Claim)) (v3 : (List Claim) × Int) : Option (List Claim) :=
 (if (decide (v3.2 > a1)) then (l8 v3.1 v3.2).bind fun v5 =>
 (l8 v3.1 v3.2).bind fun v6 =>
 (l8 v3.1 (i64 (v3.2 - 1))).bind fun v7 =>
 (l8 v3.1 (i64 (v3.2 - 1))).bind fun v8 =>
 (a34 v6 v8).bind fun v9 =>
 some (decide (v9 < 0)) else some false).bind fun v10 =>
 if v10 then
 (l8 v3.1 (i64 (v3.2 - 1))).bind fun v11 =>
 (l8 v3.1 (i64 (v3.2 - 1))).bind fun v12 =>
 (l8 v3.1 v3.2).bind fun v13 =>
 (l8 v3.1 v3.2).bind fun v14 =>
 (l8 v3.1 v3.2).bind fun v15 =>
 (l8 v3.1 v3.2).bind fun v16 =>
 (l8 (b0x v3.1 v3.2 v12) (i64 (v3.2 - 1))).bind fun v17 =>
 (l8 (b0x v3.1 v3.2 v12) (i64 (v3.2 - 1))).bind fun v18 =>
 r4 (b0x (b0x v3.1 v3.2 v12) (i64 (v3.2 - 1)) v14, i64 (v3.2 - 1))
 else
 r2 (v3.1, i64 (v1.2 + 1))
def a1z (a2 : Int) (a1 : Int) (r2 : ((List Claim) × Int) -> Option (List Claim)) (v1 : (List Claim) × Int) : Option (List Claim) :=
 if (decide (v1.2 < a2)) then
 d9 FU (a1y a1 r2 v1) (v1.1, v1.2)
 else
 some v1.1
def p7 (a0 : List Claim) (a1 : Int) (a2 : Int) : Option (List Claim) :=
 d9 FU (a1z a2 a1) (a0, i64 (a1 + 1))
structure Ring_slices_pdqsortCmpFunc_of_api_Claim_c_decision_compare where
  f_slices_pdqsortCmpFunc_of_api_Claim : (List Claim) -> Int -> Int -> Int -> Option (List Claim)
def a2u (R : Ring_slices_pdqsortCmpFunc_of_api_Claim_c_decision_compare) (v4 : (List Claim) × Int × Int × Int × Unit × Bool × Bool × Int) : Option (List Claim) :=
 none
def l9 (R : Ring_slices_pdqsortCmpFunc_of_api_Claim_c_decision_compare) (r2 : ((List Claim) × Int × Int × Int × Bool × Bool) -> Option (List Claim)) (v1 : (List Claim) × Int × Int × Int × Bool × Bool) : Option (List Claim) :=
 if (decide ((i64 (v1.2.2.1 - v1.2.1)) <= 12)) then
 (p7 v1.1 v1.2.1 v1.2.2.1).bind fun v3 =>
 some v3
 else
 if (v1.2.2.2.1 == 0) then
 none
 else
 if (!v1.2.2.2.2.1) then
 none
 else
 joinC (a2u R) (v1.1, v1.2.1, v1.2.2.1, v1.2.2.2.1, (), v1.2.2.2.2.1, v1.2.2.2.2.2, i64 (v1.2.2.1 - v1.2.1))
def m5 (R : Ring_slices_pdqsortCmpFunc_of_api_Claim_c_decision_compare) (a0 : List Claim) (a1 : Int) (a2 : Int) (a3 : Int) : Option (List Claim) :=
 d9 FU (l9 R) (a0, a1, a2, a3, true, true)
def c7 : Nat -> Ring_slices_pdqsortCmpFunc_of_api_Claim_c_decision_compare
  | 0 => ⟨fun _ _ _ _ => none⟩
  | n + 1 => ⟨m5 (c7 n)⟩
def a0b (a0 : List Claim) (a1 : Int) (a2 : Int) (a3 : Int) : Option (List Claim) := (c7 FU).f_slices_pdqsortCmpFunc_of_api_Claim a0 a1 a2 a3
def m4 (a0 : List Claim) : Option (List Claim) :=
 (c1n (u64 ((a0.length : Int)))).bind fun v1 =>
 (a0b a0 0 (a0.length : Int) v1).bind fun v2 =>
 some v2
def a63 (a0 : List Claim) (r2 : ((List Claim) × Int) -> Option (List Claim)) (v1 : (List Claim) × Int) : Option (List Claim) :=
 if (decide (v1.2 < (a0.length : Int))) then
 (l8 a0 v1.2).bind fun v3 =>
 (a2n v3).bind fun v4 =>
 if v4 then
 (a8w 48 v1.1 [v3]).bind fun v5 =>
 r2 (v5, i64 (v1.2 + 1))
 else
 r2 (v1.1, i64 (v1.2 + 1))
 else
 (m4 v1.1).bind fun v6 =>
 (a1o v6).bind fun v7 =>
 some v7
def a6b (a0 : List Claim) : Option (List Claim) :=
 d9 FU (a63 a0) ([], 0)
def a8j (a0 : Laws) (a1 : List api_Fact) (a2 : List Claim) (a3 : Int) : Option (Option decision_file) :=
 (b0j a1 []).bind fun v1 =>
 (b3t v1 a3).bind fun v2 =>
 (a6b a2).bind fun v3 =>
 some (some (⟨a0, v1, v2, v3, a3⟩ : decision_file))
def a5p (a0 : decision_file) (r2 : (Int × Bool × Int) -> Option (Int × Bool)) (v1 : Int × Bool × Int) : Option (Int × Bool) :=
 if (decide (v1.2.2 < (a0.claims.length : Int))) then
 (l8 a0.claims v1.2.2).bind fun v3 =>
 if (v3.Person != a0.person) then
 r2 (v1.1, v1.2.1, i64 (v1.2.2 + 1))
 else
 (a0l v3).bind fun v4 =>
 (if (!v1.2.1) then some true else some (decide (v4.1 < v1.1))).bind fun v5 =>
 if v5 then
 r2 (v4.1, true, i64 (v1.2.2 + 1))
 else
 r2 (v1.1, v1.2.1, i64 (v1.2.2 + 1))
 else
 some (v1.1, v1.2.1)
def a5a (a0 : decision_file) : Option (Int × Bool) :=
 d9 FU (a5p a0) (0, false, 0)
def b0m (a0 : Claim) (a1 : Int) : Option Bool :=
 (a0l a0).bind fun v1 =>
 some (decide (v1.1 <= a1))
def b0z (a0 : Claim) (a1 : Claim) : Option Int :=
 (o6 a0.Benefit a1.Benefit).bind fun v1 =>
 (o6 a0.Ref a1.Ref).bind fun v2 =>
 (a4f [v1, v2]).bind fun v3 =>
 some v3
def a1c (a1 : Int) (r2 : ((List Claim) × Int) -> Option (List Claim)) (v1 : (List Claim) × Int) (r4 : ((List Claim) × Int) -> Option (List Claim)) (v3 : (List Claim) × Int) : Option (List Claim) :=
 (if (decide (v3.2 > a1)) then (l8 v3.1 v3.2).bind fun v5 =>
 (l8 v3.1 v3.2).bind fun v6 =>
 (l8 v3.1 (i64 (v3.2 - 1))).bind fun v7 =>
 (l8 v3.1 (i64 (v3.2 - 1))).bind fun v8 =>
 (b0z v6 v8).bind fun v9 =>
 some (decide (v9 < 0)) else some false).bind fun v10 =>
 if v10 then
 (l8 v3.1 (i64 (v3.2 - 1))).bind fun v11 =>
 (l8 v3.1 (i64 (v3.2 - 1))).bind fun v12 =>
 (l8 v3.1 v3.2).bind fun v13 =>
 (l8 v3.1 v3.2).bind fun v14 =>
 (l8 v3.1 v3.2).bind fun v15 =>
 (l8 v3.1 v3.2).bind fun v16 =>
 (l8 (b0x v3.1 v3.2 v12) (i64 (v3.2 - 1))).bind fun v17 =>
 (l8 (b0x v3.1 v3.2 v12) (i64 (v3.2 - 1))).bind fun v18 =>
 r4 (b0x (b0x v3.1 v3.2 v12) (i64 (v3.2 - 1)) v14, i64 (v3.2 - 1))
 else
 r2 (v3.1, i64 (v1.2 + 1))
def a19 (a2 : Int) (a1 : Int) (r2 : ((List Claim) × Int) -> Option (List Claim)) (v1 : (List Claim) × Int) : Option (List Claim) :=
 if (decide (v1.2 < a2)) then
 d9 FU (a1c a1 r2 v1) (v1.1, v1.2)
 else
 some v1.1
def o9 (a0 : List Claim) (a1 : Int) (a2 : Int) : Option (List Claim) :=
 d9 FU (a19 a2 a1) (a0, i64 (a1 + 1))
def a2b (a1 : Int) (v5 : (List Claim) × Int) (r6 : ((List Claim) × Int) -> Option (List Claim)) (r8 : ((List Claim) × Int × Int) -> Option (List Claim)) (v7 : (List Claim) × Int × Int) : Option (List Claim) :=
 if (decide (v7.2.2 <= a1)) then
 none
 else
 if (decide ((i64 (v7.2.1 + v5.2)) < a1)) then
 none
 else
 r6 (v7.1, i64 (v5.2 * 2))
def a2j (a1 : Int) (r6 : ((List Claim) × Int) -> Option (List Claim)) (v5 : (List Claim) × Int) : Option (List Claim) :=
 if (decide (v5.2 < a1)) then
 d9 FU (a2b a1 v5 r6) (v5.1, 0, i64 (2 * v5.2))
 else
 some v5.1
def a2h (a1 : Int) (r2 : ((List Claim) × Int × Int) -> Option (List Claim)) (v1 : (List Claim) × Int × Int) : Option (List Claim) :=
 if (decide (v1.2.2 <= a1)) then
 (o9 v1.1 v1.2.1 v1.2.2).bind fun v3 =>
 r2 (v3, v1.2.2, i64 (v1.2.2 + 20))
 else
 (o9 v1.1 v1.2.1 a1).bind fun v4 =>
 d9 FU (a2j a1) (v4, 20)
def a06 (a0 : List Claim) (a1 : Int) : Option (List Claim) :=
 d9 FU (a2h a1) (a0, 0, 20)
def a00 (a0 : List Claim) : Option (List Claim) :=
 (a06 a0 (a0.length : Int)).bind fun v1 =>
 some v1
def b5q (a0 : List Claim) (a2 : Int) (a1 : Int) (r2 : ((List Claim) × (Ar 6 Bool) × (Ar 100 Bool) × Int) -> Option (List Claim)) (v1 : (List Claim) × (Ar 6 Bool) × (Ar 100 Bool) × Int) : Option (List Claim) :=
 if (decide (v1.2.2.2 < (a0.length : Int))) then
 (l8 a0 v1.2.2.2).bind fun v3 =>
 if (v3.Benefit == 4) then
 (b0m v3 a2).bind fun v4 =>
 (if v4 then (l8 v1.2.2.1.l v3.Ref).bind fun v5 =>
 (l8 v1.2.2.1.l v3.Ref).bind fun v6 =>
 some (!v6) else some false).bind fun v7 =>
 if v7 then
 (l8 v1.2.2.1.l v3.Ref).bind fun v8 =>
 (l8 v1.2.2.1.l v3.Ref).bind fun v9 =>
 if (v3.Person == a1) then
 (a8w 48 v1.1 [v3]).bind fun v10 =>
 r2 (v10, v1.2.1, Ar.set v1.2.2.1 v3.Ref true, i64 (v1.2.2.2 + 1))
 else
 r2 (v1.1, v1.2.1, Ar.set v1.2.2.1 v3.Ref true, i64 (v1.2.2.2 + 1))
 else
 r2 (v1.1, v1.2.1, v1.2.2.1, i64 (v1.2.2.2 + 1))
 else
 (if (v3.Person == a1) then (l8 v1.2.1.l v3.Benefit).bind fun v11 =>
 (l8 v1.2.1.l v3.Benefit).bind fun v12 =>
 some (!v12) else some false).bind fun v13 =>
 if v13 then
 (l8 v1.2.1.l v3.Benefit).bind fun v14 =>
 (l8 v1.2.1.l v3.Benefit).bind fun v15 =>
 (b0m v3 a2).bind fun v16 =>
 if v16 then
 (a8w 48 v1.1 [v3]).bind fun v17 =>
 r2 (v17, Ar.set v1.2.1 v3.Benefit true, v1.2.2.1, i64 (v1.2.2.2 + 1))
 else
 r2 (v1.1, Ar.set v1.2.1 v3.Benefit true, v1.2.2.1, i64 (v1.2.2.2 + 1))
 else
 r2 (v1.1, v1.2.1, v1.2.2.1, i64 (v1.2.2.2 + 1))
 else
 (a00 v1.1).bind fun v18 =>
 some v18
def a8m (a0 : List Claim) (a1 : Int) (a2 : Int) : Option (List Claim) :=
 d9 FU (b5q a0 a2 a1) ([], (arZ 6 false : Ar 6 Bool), (arZ 100 false : Ar 100 Bool), 0)
def b3a (v1 : List Claim) (a1 : Int) (r3 : ((List Claim) × (List Claim) × Int) -> Option (List Claim)) (v2 : (List Claim) × (List Claim) × Int) : Option (List Claim) :=
 if (decide (v2.2.2 < (v1.length : Int))) then
 (l8 v2.2.1 v2.2.2).bind fun v4 =>
 (l8 v2.2.1 v2.2.2).bind fun v5 =>
 if (v5.Benefit == a1) then
 (a8w 48 v2.1 [v5]).bind fun v6 =>
 r3 (v6, v2.2.1, i64 (v2.2.2 + 1))
 else
 r3 (v2.1, v2.2.1, i64 (v2.2.2 + 1))
 else
 some v2.1
def a9a (a0 : decision_file) (a1 : Int) (a2 : Int) : Option (List Claim) :=
 (a8m a0.claims a0.person a2).bind fun v1 =>
 d9 FU (b3a v1 a1) ([], v1, 0)
def b3i (a0 : api_Fact) : Option Bool :=
 (a4u a0).bind fun v1 =>
 (if v1 then some (!a0.Withdrawn) else some false).bind fun v2 =>
 some v2
def c38 (a0 : List api_Fact) (a1 : Int) (r2 : (Int × Bool × Int) -> Option (Int × Bool)) (v1 : Int × Bool × Int) : Option (Int × Bool) :=
 if (decide (v1.2.2 < (a0.length : Int))) then
 (l8 a0 v1.2.2).bind fun v3 =>
 (b3i v3).bind fun v4 =>
 (if v4 then some (v3.Kind == a1) else some false).bind fun v5 =>
 (if v5 then (if (!v1.2.1) then some true else some (decide (v3.Span.From < v1.1))).bind fun v6 =>
 some v6 else some false).bind fun v7 =>
 if v7 then
 r2 (v3.Span.From, true, i64 (v1.2.2 + 1))
 else
 r2 (v1.1, v1.2.1, i64 (v1.2.2 + 1))
 else
 some (v1.1, v1.2.1)
def c16 (a0 : List api_Fact) (a1 : Int) : Option (Int × Bool) :=
 d9 FU (c38 a0 a1) (0, false, 0)
def b5w (a0 : List api_Fact) : Option (Int × Bool) :=
 (c16 a0 12).bind fun v1 =>
 some (v1.1, v1.2)
def b2g (a0 : decision_file) (a1 : Int) : Option Bool :=
 (b5w a0.own).bind fun v1 =>
 (if (!v1.2) then some true else some (decide (v1.1 >= a1))).bind fun v2 =>
 some v2
def a87 (a0 : List api_Fact) (r2 : ((List api_Fact) × Int) -> Option (List api_Fact)) (v1 : (List api_Fact) × Int) : Option (List api_Fact) :=
 if (decide (v1.2 < (a0.length : Int))) then
 (l8 a0 v1.2).bind fun v3 =>
 (b3i v3).bind fun v4 =>
 if v4 then
 (a8w 112 v1.1 [v3]).bind fun v5 =>
 r2 (v5, i64 (v1.2 + 1))
 else
 r2 (v1.1, i64 (v1.2 + 1))
 else
 some v1.1
def a52 (a0 : List api_Fact) : Option (List api_Fact) :=
 d9 FU (a87 a0) ([], 0)
def b73 (a0 : List api_Fact) : Option (List api_Fact) :=
 (a52 a0).bind fun v1 =>
 some v1
def c0r (a0 : List api_Fact) : Option (List api_Fact) :=
 (b0j a0 []).bind fun v1 =>
 (b73 v1).bind fun v2 =>
 some v2
def b2k (a0 : List api_Fact) (a1 : Int) (a2 : Int) : Option Bool :=
 (b3t a0 a1).bind fun v1 =>
 (b5w v1).bind fun v2 =>
 (if (!v2.2) then some true else some (decide (v2.1 >= a2))).bind fun v3 =>
 some v3
def b6b (a0 : api_Fact) (a1 : Int) (a2 : Int) : Option Bool :=
 (if (a0.Kind == 10) then some (a0.Ref == a1) else some false).bind fun v1 =>
 (if v1 then some (decide (a0.Span.From <= a2)) else some false).bind fun v2 =>
 (if v2 then some (decide (a2 < a0.Span.To)) else some false).bind fun v3 =>
 some v3
def a44 (a0 : List api_Fact) (a1_0 : Int) (a1_1 : Int) (r2 : Int -> Option Int) (v1 : Int) : Option Int :=
 if (decide (v1 < (a0.length : Int))) then
 (l8 a0 v1).bind fun v3 =>
 (b6b v3 a1_0 a1_1).bind fun v4 =>
 if v4 then
 some v1
 else
 r2 (i64 (v1 + 1))
 else
 some (-1 : Int)
def a18 (a0 : List api_Fact) (a1_0 : Int) (a1_1 : Int) : Option Int :=
 d9 FU (a44 a0 a1_0 a1_1) 0
def a0s (a0 : List api_Fact) (a1_0 : Int) (a1_1 : Int) : Option Bool :=
 (a18 a0 a1_0 a1_1).bind fun v1 =>
 some (decide (v1 >= 0))
def b9s (a0 : List api_Fact) (a1 : Int) (a2 : Int) : Option Bool :=
 (a0s a0 a1 a2).bind fun v1 =>
 some v1
def c0n (a1 : Int) (a0 : List api_Fact) (a2 : Int) (r7 : ((List Int) × Int) -> Option (List Int)) (v6 : (List Int) × Int) : Option (List Int) :=
 if (decide (v6.2 <= 99)) then
 if (v6.2 != a1) then
 (b3t a0 v6.2).bind fun v8 =>
 (b9s v8 a1 a2).bind fun v9 =>
 (if v9 then (b2k a0 v6.2 a2).bind fun v10 =>
 some v10 else some false).bind fun v11 =>
 if v11 then
 (a8w 8 v6.1 [v6.2]).bind fun v12 =>
 r7 (v12, i64 (v6.2 + 1))
 else
 r7 (v6.1, i64 (v6.2 + 1))
 else
 (if false then (b2k a0 v6.2 a2).bind fun v13 =>
 some v13 else some false).bind fun v14 =>
 if v14 then
 (a8w 8 v6.1 [v6.2]).bind fun v15 =>
 r7 (v15, i64 (v6.2 + 1))
 else
 r7 (v6.1, i64 (v6.2 + 1))
 else
 some v6.1
def b72 (a0 : List api_Fact) (a1 : Int) (a2 : Int) : Option (List Int) :=
 (if (decide (a1 < 1)) then some true else some (decide (a1 > 99))).bind fun v1 =>
 (if v1 then some true else some (decide (a2 < 0))).bind fun v2 =>
 (if v2 then some true else some (decide (a2 > 73048))).bind fun v3 =>
 (if v3 then some true else (b2k a0 a1 a2).bind fun v4 =>
 some (!v4)).bind fun v5 =>
 if v5 then
 some []
 else
 d9 FU (c0n a1 a0 a2) ([], 1)
def b7d (a0 : List api_Fact) (a1 : Int) (a2 : Int) : Option (List Int) :=
 (c0r a0).bind fun v1 =>
 (b72 v1 a1 a2).bind fun v2 =>
 some v2
def b5m (a0 : List Int) (a1 : Int) (r2 : Int -> Option Int) (v1 : Int) : Option Int :=
 if (decide (v1 < (a0.length : Int))) then
 (l8 a0 v1).bind fun v3 =>
 if (a1 == v3) then
 some v1
 else
 r2 (i64 (v1 + 1))
 else
 some (-1 : Int)
def b2d (a0 : List Int) (a1 : Int) : Option Int :=
 d9 FU (b5m a0 a1) 0
def a97 (a0 : List Int) (a1 : Int) : Option Bool :=
 (b2d a0 a1).bind fun v1 =>
 some (decide (v1 >= 0))
def b1a (a0 : decision_file) (a1 : Int) (a2 : Int) : Option Bool :=
 (b7d a0.facts a1 a2).bind fun v1 =>
 (a97 v1 a0.person).bind fun v2 =>
 some v2
def a84 (a0 : Claim) (a1 : decision_file) (a2 : Int) : Option Bool :=
 (b1a a1 a0.Ref a2).bind fun v1 =>
 some v1
def a2k (a0 : List Claim) (a1_0 : decision_file) (a1_1 : Int) (r2 : Int -> Option Int) (v1 : Int) : Option Int :=
 if (decide (v1 < (a0.length : Int))) then
 (l8 a0 v1).bind fun v3 =>
 (a84 v3 a1_0 a1_1).bind fun v4 =>
 if v4 then
 some v1
 else
 r2 (i64 (v1 + 1))
 else
 some (-1 : Int)
def a05 (a0 : List Claim) (a1_0 : decision_file) (a1_1 : Int) : Option Int :=
 d9 FU (a2k a0 a1_0 a1_1) 0
def y8 (a0 : List Claim) (a1_0 : decision_file) (a1_1 : Int) : Option Bool :=
 (a05 a0 a1_0 a1_1).bind fun v1 =>
 some (decide (v1 >= 0))
def a95 (a0 : decision_file) (a1 : Int) (a2 : Int) (a3 : Int) : Option Bool :=
 (a9a a0 a1 a2).bind fun v1 =>
 (if ((v1.length : Int) == 0) then some true else (b2g a0 a3).bind fun v2 =>
 some (!v2)).bind fun v3 =>
 if v3 then
 some false
 else
 if (a1 == 2) then
 none
 else
 if (a1 == 3) then
 (l8 v1 0).bind fun v4 =>
 (l8 v1 0).bind fun v5 =>
 none
 else
 if (a1 == 4) then
 (y8 v1 a0 a3).bind fun v6 =>
 some v6
 else
 some true
def a16 (a0 : Laws) (a1 : List api_Fact) (a2 : List Claim) (a3 : Int) (a4 : Int) : Option ((List Row) × Int) :=
 (a9s a0).bind fun v1 =>
 if (v1 != 0) then
 some ([], v1)
 else
 (if (decide (a3 < 1)) then some true else some (decide (a3 > 99))).bind fun v2 =>
 (if v2 then some true else some (decide (a4 < 0))).bind fun v3 =>
 (if v3 then some true else some (decide (a4 > 2399))).bind fun v4 =>
 if v4 then
 some ([], 1)
 else
 (a8j a0 a1 a2 a3).bind fun v5 =>
 optC v5 (none) fun v6 =>
 (a5a v6).bind fun v7 =>
 (if (!v7.2) then some true else some (decide (v7.1 > a4))).bind fun v8 =>
 if v8 then
 some ([], 0)
 else
 if (decide ((i64 (a4 - v7.1)) >= 120)) then
 some ([], 7)
 else
 none
def b5o (a0 : List Claim) (a1 : Int) (a2 : Int) : Option (List Claim) :=
 (if (decide (a2 < 0)) then some true else some (decide (a2 > 2399))).bind fun v1 =>
 if v1 then
 some []
 else
 (a6b a0).bind fun v2 =>
 (a8m v2 a1 a2).bind fun v3 =>
 some v3
def a9i (a0 : List api_Fact) (a1 : List Claim) (a2 : Int) (a3 : Int) (a4 : Int) : Option Bool :=
 (a3u a4).bind fun v1 =>
 if v1.2 then
 (a8j (⟨[], [], []⟩ : Laws) a0 a1 a2).bind fun v2 =>
 optC v2 (none) fun v3 =>
 (a95 v3 a3 a4 v1.1).bind fun v4 =>
 some v4
 else
 some false
def a8g : Option Bool :=
 (a6j 2000 3 15).bind fun v1 =>
 (a0l (⟨1, 5, 2, 1, 0, v1.1⟩ : Claim)).bind fun v2 =>
 (b5o [(⟨1, 5, 2, 1, 0, v1.1⟩ : Claim)] 2 1203).bind fun v3 =>
 (if v2.2 then some (v2.1 == 1203) else some false).bind fun v4 =>
 (if v4 then (a2n (⟨1, 5, 2, 1, 0, v1.1⟩ : Claim)).bind fun v5 =>
 some v5 else some false).bind fun v6 =>
 (if v6 then some ((v3.length : Int) == 1) else some false).bind fun v7 =>
 (if v7 then (l8 v3 0).bind fun v8 =>
 (l8 v3 0).bind fun v9 =>
 some ((v9.Issuer == 1) && ((v9.Number == 5) && ((v9.Person == 2) && ((v9.Benefit == 1) && ((v9.Ref == 0) && ((v9.Day == v1.1) && (true))))))) else some false).bind fun v10 =>
 if v10 then
 (a9i [] [(⟨1, 5, 2, 1, 0, v1.1⟩ : Claim)] 2 1 1203).bind fun v11 =>
 if v11 then
 (a9i [] [(⟨1, 5, 2, 1, 0, v1.1⟩ : Claim)] 2 1 1202).bind fun v12 =>
 some (!v12)
 else
 some false
 else
 some false
def a24 (a0 : pensionlaw26_Seeds) (a1 : Int) (a2 : Int) (a3 : Int) : Option Bool :=
 (a6o a0).bind fun v1 =>
 (b6 a3 1000).bind fun v2 =>
 (a49 v1.2.2 1).bind fun v3 =>
 (a16 v1.1 v1.2.1 v1.2.2 (i64 (99 + (i64 (1 + v2)))) 1200).bind fun v4 =>
 (a16 v1.1 v1.2.1 v1.2.2 1 (i64 (2399 + (i64 (1 + v2))))).bind fun v5 =>
 (a16 v1.1 v1.2.1 v1.2.2 1 (i64 (-(i64 (1 + v2))))).bind fun v6 =>
 (b6 a3 100).bind fun v7 =>
 (a16 v1.1 v1.2.1 v1.2.2 1 (i64 ((i64 (v3.1 + 120)) + v7))).bind fun v8 =>
 (a16 (⟨v1.1.States, [], v1.1.Rates⟩ : Laws) v1.2.1 v1.2.2 1 1200).bind fun v9 =>
 (a8g).bind fun v10 =>
 (if v10 then some v3.2 else some false).bind fun v11 =>
 (if v11 then some (v4.2 == 1) else some false).bind fun v12 =>
 (if v12 then some (v5.2 == 1) else some false).bind fun v13 =>
 (if v13 then some (v6.2 == 1) else some false).bind fun v14 =>
 (if v14 then some (v8.2 == 7) else some false).bind fun v15 =>
 (if v15 then some (v9.2 == 1) else some false).bind fun v16 =>
 (if v16 then some ((v9.1.length : Int) == 0) else some false).bind fun v17 =>
 some v17
end Go.PL
namespace Go.PL
open Go
theorem i8 {n : Int} (h0 : -9223372036854775808 <= n) (h1 : n <= 9223372036854775807) : i64 n = n := by
  unfold i64; rw [IntKind.wrap_i64]; omega
theorem d7u {n : Int} (h0 : 0 <= n) (h1 : n <= 18446744073709551615) : u64 n = n := by
  unfold u64; rw [IntKind.wrap_u64]; omega
theorem f3l (n : Int) : u64 n = n % 18446744073709551616 := by unfold u64; rw [IntKind.wrap_u64]
theorem b90 (n : Int) : 0 <= u64 n /\ u64 n <= 18446744073709551615 := by rw [f3l]; omega
theorem b34 {α : Type} (l : List α) (k : Nat) : l8 l (k : Int) = l[k]? := by unfold l8; rw [if_pos (Int.natCast_nonneg k), Int.toNat_natCast]
theorem d80 {α : Type} {l : List α} {i : Int} {x : α} (h0 : 0 <= i) (h : l[i.toNat]? = some x) : l8 l i = some x := by unfold l8; rw [if_pos h0]; exact h
theorem a99 {b e : Bool} : (if b = true then some true else some e) = some (b || e) := by cases b <;> rfl
theorem a4o {b e : Bool} : (if b = true then some e else some false) = some (b && e) := by cases b <;> rfl
theorem c2k {σ ρ : Type} {f : (σ -> Option ρ) -> σ -> Option ρ} (I : σ -> Prop) (μ : σ -> Nat) (Q : ρ -> Prop)
    (step : ∀ s rec, I s -> (∃ r, f rec s = some r /\ Q r) \/ ∃ s', f rec s = rec s' /\ I s' /\ μ s' < μ s) : ∀ (k : Nat) (s : σ), I s -> μ s < k -> ∃ r, d9 k f s = some r /\ Q r
  | 0, _, _, h => absurd h (Nat.not_lt_zero _)
  | k + 1, s, hs, hk => by
    rcases step s (d9 k f) hs with ⟨r, h1, h2⟩ | ⟨s', h1, h2, h3⟩
    . exact ⟨r, h1, h2⟩
    . obtain ⟨r, h4, h5⟩ := c2k I μ Q step k s' h2 (by omega)
      exact ⟨r, by show f (d9 k f) s = _; rw [h1, h4], h5⟩
theorem a9y {σ ρ : Type} {f : (σ -> Option ρ) -> σ -> Option ρ} (I : σ -> Prop) (μ : σ -> Nat) (Q : ρ -> Prop) {s : σ} (h0 : I s) (hμ : μ s < 2 ^ 70)
    (step : ∀ s rec, I s -> (∃ r, f rec s = some r /\ Q r) \/ ∃ s', f rec s = rec s' /\ I s' /\ μ s' < μ s) : ∃ r, d9 FU f s = some r /\ Q r :=
  c2k I μ Q step FU s h0 (by unfold FU; exact hμ)
theorem c25 {σ ρ : Type} {f : (σ -> Option ρ) -> σ -> Option ρ} (I : σ -> Prop) (μ : σ -> Nat) (Q : Option ρ -> Prop)
    (step : ∀ s rec, I s -> Q (f rec s) \/ ∃ s', f rec s = rec s' /\ I s' /\ μ s' < μ s) : ∀ (k : Nat) (s : σ), I s -> μ s < k -> Q (d9 k f s)
  | 0, _, _, h => absurd h (Nat.not_lt_zero _)
  | k + 1, s, hs, hk => by
    rcases step s (d9 k f) hs with h1 | ⟨s', h1, h2, h3⟩
    . exact h1
    . show Q (f (d9 k f) s)
      rw [h1]
      exact c25 I μ Q step k s' h2 (by omega)
theorem b9o {σ ρ : Type} {f : (σ -> Option ρ) -> σ -> Option ρ} (I : σ -> Prop) (μ : σ -> Nat) (Q : Option ρ -> Prop) {s : σ} (h0 : I s) (hμ : μ s < 2 ^ 70)
    (step : ∀ s rec, I s -> Q (f rec s) \/ ∃ s', f rec s = rec s' /\ I s' /\ μ s' < μ s) : Q (d9 FU f s) :=
  c25 I μ Q step FU s h0 (by unfold FU; exact hμ)
theorem c02 {a b : Int} (h : b ≠ 0) : b2j a b = some (a.tmod b) := by unfold b2j; rw [if_neg h]
theorem d0y {a b : Int} (h : b ≠ 0) : b5i a b = some (i64 (a.tdiv b)) := by unfold b5i; rw [if_neg h]
theorem a9f {α : Type} {bytes : Nat} {l x : List α} (h : (l.length + x.length) * bytes <= 140737488355328) : a8w bytes l x = some (l ++ x) := by unfold a8w; rw [if_pos h]
theorem b3u {α : Type} {l : List α} {lo hi : Int} (h0 : 0 <= lo) (h1 : lo <= hi) (h2 : hi <= (l.length : Int)) : a3w l lo hi = some ((l.drop lo.toNat).take (hi.toNat - lo.toNat)) := by
  unfold a3w; rw [if_pos ⟨h0, h1, h2⟩]
theorem c28 {a b : Int} (h : 0 <= a) : a.tmod b = a % b := Int.tmod_eq_emod_of_nonneg h
theorem d17 {a b : Int} (h : 0 <= a) : a.tdiv b = a / b := Int.tdiv_eq_ediv_of_nonneg h
end Go.PL
namespace Go.PL
open Go
theorem b61 {σ ρ S α : Type} {f : (σ -> Option ρ) -> σ -> Option ρ} (l : List α) (e : S -> Int -> σ) (I : S -> Nat -> Prop) (Q : Option ρ -> Prop) (hl : l.length < 2 ^ 62)
    (hstep : ∀ rec s (i : Nat) y, i < l.length -> l[i]? = some y -> I s i -> Q (f rec (e s (i : Int))) \/ ∃ s', f rec (e s (i : Int)) = rec (e s' ((i + 1 : Nat) : Int)) /\ I s' (i + 1))
    (hfin : ∀ rec s, I s l.length -> Q (f rec (e s (l.length : Int)))) (s : S) (h0 : I s 0) : Q (d9 FU f (e s 0)) := by
  have key : ∀ (k : Nat) (s : S) (i : Nat), i <= l.length -> I s i -> l.length - i < k -> Q (d9 k f (e s (i : Int))) := by
    intro k
    induction k with
    | zero => intro s i _ _ h; omega
    | succ k ih =>
      intro s i hi hI hk
      show Q (f (d9 k f) (e s (i : Int)))
      by_cases h : i < l.length
      . rcases hstep (d9 k f) s i l[i] h (List.getElem?_eq_getElem h) hI with h1 | ⟨s', h1, h2⟩
        . exact h1
        . rw [h1]; exact ih s' (i + 1) (by omega) h2 (by omega)
      . have : i = l.length := by omega
        subst this
        exact hfin _ _ hI
  have : (0 : Int) = ((0 : Nat) : Int) := rfl
  rw [this]
  exact key FU s 0 (Nat.zero_le _) h0 (by unfold FU; omega)
theorem b94 {x : Nat} (h : x < 2 ^ 62) : i64 ((x : Int) + 1) = ((x + 1 : Nat) : Int) := by rw [i8 (by omega) (by omega)]; simp
theorem c37 {α : Type} {l : List α} {i : Nat} {y : α} (h : l[i]? = some y) : l8 l (i : Int) = some y := by rw [b34]; exact h
theorem c6v {α : Type} {l : List α} {i : Nat} {y : α} (h : l[i]? = some y) : l.take (i + 1) = l.take i ++ [y] := by
  have hi : i < l.length := by
    rcases Nat.lt_or_ge i l.length with h1 | h1
    . exact h1
    . rw [List.getElem?_eq_none h1] at h; cases h
  rw [List.take_succ_eq_append_getElem hi]
  rw [List.getElem?_eq_getElem hi] at h
  rw [Option.some.inj h]
end Go.PL
namespace Go.PL
open Go Go.SX
def Tot {α : Type} (o : Option α) (Q : α -> Prop) : Prop := ∃ a, o = some a /\ Q a
section
variable {α β : Type} {o : Option α} {Q R : α -> Prop} {S : β -> Prop} {f : α -> Option β} {a : α}
theorem Tot.some (h : Q a) : Tot (some a) Q := ⟨a, rfl, h⟩
theorem Tot.bind (h : Tot o Q) (hf : ∀ a, Q a -> Tot (f a) S) : Tot (Option.bind o f) S := by
  obtain ⟨a, rfl, hq⟩ := h
  exact hf a hq
theorem Tot.ite {c : Prop} [Decidable c] {x y : Option α} (h1 : c -> Tot x Q) (h2 : ¬ c -> Tot y Q) : Tot (if c then x else y) Q := by
  split
  . exact h1 (by assumption)
  . exact h2 (by assumption)
theorem Tot.join (h : Tot (f a) S) : Tot (joinC f a) S := h
end
theorem Tot.loop {σ ρ : Type} {f : (σ -> Option ρ) -> σ -> Option ρ} (I : σ -> Prop) (μ : σ -> Nat) {Q : ρ -> Prop} {s : σ} (h0 : I s) (hμ : μ s < 2 ^ 70) (step : ∀ (r : σ -> Option ρ) (s : σ), I s -> (∀ s', I s' -> μ s' < μ s -> Tot (r s') Q) -> Tot (f r s) Q) : Tot (d9 FU f s) Q := by
  have key : ∀ (k : Nat) (s : σ), I s -> μ s < k -> Tot (d9 k f s) Q := by
    intro k
    induction k with
    | zero => intro s _ h; omega
    | succ k ih =>
      intro s hI hk
      exact step (d9 k f) s hI fun s' h1 h2 => ih s' h1 (by omega)
  exact key FU s h0 (by unfold FU; exact hμ)
theorem e29 {s : ByteArray} {i : Int} (h0 : 0 <= i) (h1 : i < (s.size : Int)) : Tot (a8y s i) fun b => 0 <= b /\ b <= 255 := by
  unfold a8y
  rw [if_pos h0]
  have hlt : i.toNat < s.size := by omega
  rw [getElem?_pos s i.toNat hlt]
  refine ⟨_, rfl, ?_⟩
  have := (s[i.toNat]'hlt).toNat_lt
  exact ⟨Int.natCast_nonneg _, by show (((s[i.toNat]'hlt).toNat : Nat) : Int) <= 255; omega⟩
theorem c6b {s : ByteArray} {a b : Int} (h0 : 0 <= a) (h1 : a <= b) (h2 : b <= (s.size : Int)) : Tot (b5f s a b) fun r => (r.size : Int) = b - a := by
  unfold b5f
  rw [if_pos ⟨h0, h1, h2⟩]
  refine ⟨_, rfl, ?_⟩
  show ((s.extract a.toNat b.toNat).size : Int) = b - a
  rw [ByteArray.size_extract]
  omega
theorem j6 {a b : ByteArray} (h : a.size + b.size <= 9223372036854775807) : Tot (a40 a b) fun r => r.size = a.size + b.size := by
  unfold a40
  rw [if_pos h]
  exact ⟨_, rfl, ByteArray.size_append⟩
theorem b2x {α : Type} {l : List α} {i : Int} (h0 : 0 <= i) (h1 : i < (l.length : Int)) : Tot (l8 l i) fun x => x ∈ l := by
  unfold l8
  rw [if_pos h0]
  have hlt : i.toNat < l.length := by omega
  rw [List.getElem?_eq_getElem hlt]
  exact ⟨_, rfl, List.getElem_mem hlt⟩
theorem b6j {α : Type} {k : Nat} {l x : List α} (h : (l.length + x.length) * k <= 140737488355328) : Tot (a8w k l x) fun r => r = l ++ x := ⟨_, a9f h, rfl⟩
theorem b36 {a b : Int} (h0 : 0 <= a) (hb : 0 < b) : Tot (b2j a b) fun r => r = a % b /\ 0 <= r /\ r < b /\ r <= a := by
  rw [c02 (by omega), c28 h0]
  have h1 := Int.emod_nonneg a (show b ≠ 0 by omega)
  have h2 := Int.emod_lt_of_pos a hb
  have h3 : a % b <= a := by
    have := Int.emod_add_mul_ediv a b
    have h5 : 0 <= b * (a / b) := Int.mul_nonneg (by omega) (Int.ediv_nonneg h0 (by omega))
    omega
  exact ⟨_, rfl, rfl, h1, h2, h3⟩
theorem b8z {a b : Int} (h0 : 0 <= a) (h1 : a <= 9223372036854775807) (hb : 0 < b) : Tot (b5i a b) fun r => r = a / b /\ 0 <= r /\ r <= a := by
  rw [d0y (by omega), d17 h0]
  have g1 := Int.ediv_nonneg h0 (show 0 <= b by omega)
  have g2 : a / b <= a := Int.ediv_le_self b h0
  rw [i8 (by omega) (by omega)]
  exact ⟨_, rfl, rfl, g1, g2⟩
theorem b48 {x : Int} (h0 : 0 <= x) (h1 : x <= 4611686018427387904) : i64 (x + 1) = x + 1 := i8 (by omega) (by omega)
theorem a0t {a n : Int} (hn : 0 < n) (h1 : n <= 9223372036854775807) : Tot (b6 a n) fun r => 0 <= r /\ r < n := by
  unfold b6
  rw [c02 (by omega), Option.bind_some]
  have h2 := Int.tmod_lt_of_pos a hn
  have h3 : -n < a.tmod n := Int.lt_tmod_of_pos a hn
  refine Tot.ite (fun h => ?_) fun h => ?_
  . simp at h
    rw [i8 (by omega) (by omega)]
    exact Tot.some (by omega)
  . simp at h
    exact Tot.some (by omega)
theorem a0p (l : List Int) (i : Int) (hl : l.length <= 9223372036854775807) : Tot (c8 l i) fun _ => True := by
  unfold c8
  refine Tot.ite (fun h => Tot.some trivial) fun h => ?_
  have hp : 0 < l.length := by
    rcases Nat.eq_zero_or_pos l.length with h0 | h0
    . rw [h0] at h; exact absurd rfl h
    . exact h0
  refine Tot.bind (a0t (by omega) (by omega)) fun v hv => ?_
  exact Tot.bind (b2x (by omega) (by omega)) fun x _ => Tot.some trivial
theorem a6t {n : Int} (h0 : 0 <= n) (h1 : n <= 9999999) : Tot (k6 n) fun r => 1 <= r.size /\ r.size <= 8 := by
  unfold k6
  have hs : a3k.size = 10 := by decide
  refine Tot.loop (I := fun v : Int × ByteArray => 0 <= v.1 /\ ((v.1 <= 9 /\ v.2.size <= 6) \/ (v.1 <= 99 /\ v.2.size <= 5) \/ (v.1 <= 999 /\ v.2.size <= 4) \/ (v.1 <= 9999 /\ v.2.size <= 3) \/ (v.1 <= 99999 /\ v.2.size <= 2) \/ (v.1 <= 999999 /\ v.2.size <= 1) \/ (v.1 <= 9999999 /\ v.2.size <= 0))) (μ := fun v => v.1.toNat) (s := (n, a1f)) ⟨h0, .inr (.inr (.inr (.inr (.inr (.inr ⟨h1, (by decide : a1f.size <= 0)⟩)))))⟩ (by show n.toNat < _; omega) ?_
  intro r v hI ih
  obtain ⟨g1, g2⟩ := hI
  unfold a0g
  refine Tot.ite (fun h => ?_) fun h => ?_
  . simp at h
    refine Tot.bind (b36 g1 (by omega)) fun a ha => ?_
    refine Tot.bind (b36 g1 (by omega)) fun b hb => ?_
    have hab : a = b := by omega
    subst hab
    rw [b48 (by omega) (by omega)]
    refine Tot.bind (c6b (by omega) (by omega) (by rw [hs]; omega)) fun c hc => ?_
    refine Tot.bind (j6 (by omega)) fun d hd => ?_
    refine Tot.bind (b8z g1 (by omega) (by omega)) fun e he => ?_
    refine ih (e, d) ⟨he.2.1, ?_⟩ (by show e.toNat < v.1.toNat; omega)
    show (e <= 9 /\ d.size <= 6) \/ (e <= 99 /\ d.size <= 5) \/ (e <= 999 /\ d.size <= 4) \/ (e <= 9999 /\ d.size <= 3) \/ (e <= 99999 /\ d.size <= 2) \/ (e <= 999999 /\ d.size <= 1) \/ (e <= 9999999 /\ d.size <= 0)
    omega
  . simp at h
    rw [b48 (by omega) (by omega)]
    refine Tot.bind (c6b (by omega) (by omega) (by rw [hs]; omega)) fun c hc => ?_
    exact Tot.bind (j6 (by omega)) fun d hd => Tot.some (by omega)
theorem d1l {n : Int} (h0 : 0 <= n) (h1 : n <= 999999) : Tot (q6 n) fun r => r.size <= 25 := by
  unfold q6
  have hs : a8a.size = 1 := by decide
  refine Tot.bind (b8z h0 (by omega) (by omega)) fun a ha => ?_
  refine Tot.bind (a6t (by omega) (by omega)) fun b hb => ?_
  refine Tot.bind (j6 (by omega)) fun c hc => ?_
  refine Tot.bind (b8z h0 (by omega) (by omega)) fun d hd => ?_
  refine Tot.bind (b36 (by omega) (by omega)) fun e he => ?_
  refine Tot.bind (a6t (by omega) (by omega)) fun g hg => ?_
  refine Tot.bind (j6 (by omega)) fun i hi => ?_
  refine Tot.bind (b36 h0 (by omega)) fun j hj => ?_
  refine Tot.bind (a6t (by omega) (by omega)) fun k hk => ?_
  exact Tot.bind (j6 (by omega)) fun l hl => Tot.some (by omega)
theorem b6k {x : Int} (h0 : 0 <= x) (h1 : x <= 9999999) : Tot (k6 (i64 x)) fun r => 1 <= r.size /\ r.size <= 8 := by
  rw [i8 (by omega) (by omega)]; exact a6t h0 h1
theorem b63 {x : Int} (h0 : 0 <= x) (h1 : x <= 999999) : Tot (q6 (i64 x)) fun r => r.size <= 25 := by
  rw [i8 (by omega) (by omega)]; exact d1l h0 h1
theorem e3y {a b : Int} (hb : b ≠ 0) : Tot (b5i a b) fun _ => True := ⟨_, d0y hb, trivial⟩
theorem e4c {a b : Int} (hb : b ≠ 0) : Tot (b2j a b) fun _ => True := ⟨_, c02 hb, trivial⟩
end Go.PL
namespace Go.PL
open Go Go.SX
def d4s (b : Int) : Bool := decide (b >= 97) && decide (b <= 122)
def c6e (b : Int) : Bool := decide (b >= 48) && decide (b <= 57)
theorem c9u (b : Int) : a2w b = some (d4s b) := by
  unfold a2w d4s
  rw [a4o, Option.bind_some]
theorem c78 (b : Int) : a2g b = some (c6e b) := by
  unfold a2g c6e
  rw [a4o, Option.bind_some]
end Go.PL
namespace Go.PL
open Go Go.SX
theorem c1v (a : Int) : ∃ v, a22 a = some v /\ 0 <= v /\ v <= 18446744073709551615 /\ (0 <= a -> a <= 18446744073709551615 -> v = a) := by
  unfold a22
  split
  . rename_i h
    simp at h
    exact ⟨_, rfl, (b90 _).1, (b90 _).2, fun h0 => by omega⟩
  . exact ⟨_, rfl, (b90 _).1, (b90 _).2, fun h0 h1 => d7u h0 h1⟩
theorem e2m {a b : Int} (ha : 0 <= a) (hb : 0 <= b) (h : 0 < a + b) (hma : a <= 18446744073709551615) (hm : b <= 18446744073709551615) : Tot (a1m a b) fun g => 0 < g /\ g <= 18446744073709551615 := by
  unfold a1m
  refine Tot.loop (I := fun v : Int × Int => 0 <= v.1 /\ 0 <= v.2 /\ 0 < v.1 + v.2 /\ v.1 <= 18446744073709551615 /\ v.2 <= 18446744073709551615) (μ := fun v => v.2.toNat) ⟨ha, hb, h, hma, hm⟩ (by show b.toNat < _; omega) ?_
  intro r v hI ih
  obtain ⟨g1, g2, g3, g4, g5⟩ := hI
  unfold a8r
  refine Tot.ite (fun hc => ?_) fun hc => Tot.some ⟨by simp at hc; omega, g4⟩
  have hv : 0 < v.2 := by
    have : v.2 ≠ 0 := by simpa using hc
    omega
  refine Tot.bind (b36 g1 hv) fun c hcc => ih (v.2, c) ⟨g2, hcc.2.1, by show 0 < v.2 + c; omega, g5, by show c <= _; omega⟩ (by show c.toNat < v.2.toNat; omega)
end Go.PL
namespace Go.PL
open Go Go.SX
theorem b93 (f : Fraction) : Tot (w8 f) fun b => b = true -> 1 <= f.Den /\ f.Den <= 1000000000 /\ -1000000000000000 <= f.Num /\ f.Num <= 1000000000000000 := by
  unfold w8
  simp only [a4o, Option.bind_some]
  refine Tot.bind (Q := fun b => b = true -> 1 <= f.Den /\ f.Den <= 1000000000 /\ -1000000000000000 <= f.Num /\ f.Num <= 1000000000000000) (Tot.ite (fun h => ?_) fun _ => Tot.some fun h => by cases h) fun b hb => Tot.some hb
  simp at h
  obtain ⟨x, hx, x0, x1, _⟩ := c1v f.Num
  rw [hx, Option.bind_some, d7u (by omega) (by omega)]
  exact Tot.bind (e2m x0 (by omega) (by omega) x1 (by omega)) fun _ _ => Tot.some fun _ => ⟨by omega, by omega, by omega, by omega⟩
theorem d0p {n : Int} (h0 : 0 <= n) (h1 : n <= 1000000000000000) : Tot (a4c n 1) fun r => (r.size : Int) <= n + 1 := by
  unfold a4c
  have hs : a3k.size = 10 := by decide
  refine Tot.loop (I := fun v : Int × ByteArray => 0 <= v.1 /\ v.1 <= n /\ v.1 + (v.2.size : Int) <= n + 1) (μ := fun v => 2 * v.1.toNat + (1 - v.2.size)) (s := (n, a1f)) ⟨h0, Int.le_refl _, by show n + (a1f.size : Int) <= n + 1; rw [show a1f.size = 0 from rfl]; omega⟩ (by show 2 * n.toNat + (1 - a1f.size) < _; omega) ?_
  intro r v hI ih
  obtain ⟨g1, g2, g3⟩ := hI
  unfold b07
  rw [a99, Option.bind_some]
  refine Tot.ite (fun h => ?_) fun _ => Tot.some (by omega)
  simp at h
  refine Tot.bind (b36 g1 (by omega)) fun a ha => Tot.bind (b36 g1 (by omega)) fun b hb => ?_
  have hab : a = b := by omega
  subst hab
  rw [b48 (by omega) (by omega)]
  refine Tot.bind (c6b (by omega) (by omega) (by rw [hs]; omega)) fun c hc => Tot.bind (j6 (by omega)) fun d hd => Tot.bind (b8z g1 (by omega) (by omega)) fun e he => ?_
  refine ih (e, d) ⟨he.2.1, by show e <= n; omega, by show e + (d.size : Int) <= n + 1; omega⟩ (by show 2 * e.toNat + (1 - d.size) < 2 * v.1.toNat + (1 - v.2.size); omega)
theorem b7i {n : Int} (h0 : 0 <= n) (h1 : n <= 999999999) : Tot (a25 ⟨n, 1⟩) fun r => r.size <= 1000000000 := by
  unfold a25
  refine Tot.bind (b93 _) fun b _ => Tot.ite (fun _ => Tot.some (by decide)) fun _ => ?_
  obtain ⟨x, hx, x0, x1, x2⟩ := c1v n
  have := x2 h0 (by omega)
  subst this
  dsimp only
  rw [hx, Option.bind_some, i8 (by omega) (by omega)]
  refine Tot.bind (d0p h0 (by omega)) fun d hd => ?_
  rw [if_neg (by simp; omega)]
  refine Tot.join ?_
  unfold a31
  rw [if_neg (by simp)]
  exact Tot.some (by show d.size <= _; omega)
end Go.PL
namespace Go.PL
open Go Go.SX
theorem a76 (l : List Int) (k : Int) (s : ByteArray) (hl : l.length <= 9223372036854775807) (hs : s.size <= 2400) : Tot (a0v (l, k, s)) fun r => r.size <= 2500 := by
  unfold a0v
  try dsimp only
  have hstr__7d_ : a9x.size = 2 := by decide
  have hstrh_a41f67 : b50.size = 51 := by decide
  refine Tot.bind (a0p _ _ hl) fun v105 hv105 => ?_
  refine Tot.bind (a0t (by omega) (by omega)) fun v106 hv106 => ?_
  refine Tot.ite (fun hc => ?_) fun hc => ?_
  . skip
    refine Tot.bind (j6 (by omega)) fun v107 hv107 => ?_
    refine Tot.bind (j6 (by omega)) fun v108 hv108 => ?_
    exact Tot.some (by first | exact trivial | omega)
  . skip
    refine Tot.bind (j6 (by omega)) fun v109 hv109 => ?_
    exact Tot.some (by first | exact trivial | omega)
theorem a79 (l : List Int) (k : Int) (s : ByteArray) (hl : l.length <= 9223372036854775807) (hs : s.size <= 1900) : Tot (a0z (l, k, s)) fun r => r.size <= 2500 := by
  unfold a0z
  try dsimp only
  have hstr__3b_ : a3c.size = 2 := by decide
  have hstr_d_pay_ : c0d.size = 6 := by decide
  have hstr_reduce_old_by_ : a8b.size = 14 := by decide
  have hstrh_635cfa : b8h.size = 14 := by decide
  have hstrh_a54acb : b7k.size = 27 := by decide
  have hstrh_af57c7 : b7j.size = 27 := by decide
  have hstrh_bfa283 : b7h.size = 29 := by decide
  refine Tot.bind (a0p _ _ hl) fun v79 hv79 => ?_
  refine Tot.bind (a0t (by omega) (by omega)) fun v80 hv80 => ?_
  refine Tot.bind (a6t (by omega) (by omega)) fun v81 hv81 => ?_
  refine Tot.bind (j6 (by omega)) fun v82 hv82 => ?_
  refine Tot.bind (j6 (by omega)) fun v83 hv83 => ?_
  refine Tot.bind (a0p _ _ hl) fun v84 hv84 => ?_
  refine Tot.bind (a0t (by omega) (by omega)) fun v85 hv85 => ?_
  refine Tot.bind (b6k (by omega) (by omega)) fun v86 hv86 => ?_
  refine Tot.bind (j6 (by omega)) fun v87 hv87 => ?_
  refine Tot.bind (j6 (by omega)) fun v88 hv88 => ?_
  refine Tot.bind (j6 (by omega)) fun v89 hv89 => ?_
  refine Tot.bind (a0p _ _ hl) fun v90 hv90 => ?_
  refine Tot.bind (a0t (by omega) (by omega)) fun v91 hv91 => ?_
  refine Tot.bind (a6t (by omega) (by omega)) fun v92 hv92 => ?_
  refine Tot.bind (j6 (by omega)) fun v93 hv93 => ?_
  refine Tot.bind (j6 (by omega)) fun v94 hv94 => ?_
  refine Tot.bind (j6 (by omega)) fun v95 hv95 => ?_
  refine Tot.bind (a0p _ _ hl) fun v96 hv96 => ?_
  refine Tot.bind (a0t (by omega) (by omega)) fun v97 hv97 => ?_
  refine Tot.ite (fun hc => ?_) fun hc => ?_
  . skip
    refine Tot.bind (a0p _ _ hl) fun v98 hv98 => ?_
    refine Tot.bind (a0t (by omega) (by omega)) fun v99 hv99 => ?_
    refine Tot.bind (b63 (by omega) (by omega)) fun v100 hv100 => ?_
    refine Tot.bind (j6 (by omega)) fun v101 hv101 => ?_
    refine Tot.bind (j6 (by omega)) fun v102 hv102 => ?_
    refine Tot.bind (j6 (by omega)) fun v103 hv103 => ?_
    exact Tot.join (a76 _ _ _ hl (by omega))
  . skip
    exact Tot.join (a76 _ _ _ hl (by omega))
theorem a75 (l : List Int) (k : Int) (t s : ByteArray) (hl : l.length <= 9223372036854775807) (ht : t.size <= 8) (hs : s.size <= 900) : Tot (a0x (l, k, t, s)) fun r => r.size <= 2500 := by
  unfold a0x
  try dsimp only
  have hstr__3b_ : a3c.size = 2 := by decide
  have hstr_m_29_3b_ : b67.size = 4 := by decide
  have hstrh_196854 : b7z.size = 22 := by decide
  have hstrh_34ba8d : b7r.size = 9 := by decide
  have hstrh_4d1f9b : b7f.size = 13 := by decide
  have hstrh_58c487 : b7y.size = 16 := by decide
  have hstrh_7bee7c : b81.size = 31 := by decide
  have hstrh_7ff122 : b8f.size = 25 := by decide
  have hstrh_85bf07 : b8b.size = 13 := by decide
  have hstrh_98dd23 : b7m.size = 20 := by decide
  have hstrh_b388fe : b7q.size = 66 := by decide
  have hstrh_d82640 : b7o.size = 23 := by decide
  have hstrh_da8d59 : b7x.size = 26 := by decide
  refine Tot.bind (a0p _ _ hl) fun v29 hv29 => ?_
  refine Tot.bind (a0t (by omega) (by omega)) fun v30 hv30 => ?_
  refine Tot.bind (b63 (by omega) (by omega)) fun v31 hv31 => ?_
  refine Tot.bind (j6 (by omega)) fun v32 hv32 => ?_
  refine Tot.bind (j6 (by omega)) fun v33 hv33 => ?_
  refine Tot.bind (a0p _ _ hl) fun v34 hv34 => ?_
  refine Tot.bind (a0t (by omega) (by omega)) fun v35 hv35 => ?_
  refine Tot.bind (b63 (by omega) (by omega)) fun v36 hv36 => ?_
  refine Tot.bind (j6 (by omega)) fun v37 hv37 => ?_
  refine Tot.bind (j6 (by omega)) fun v38 hv38 => ?_
  refine Tot.bind (j6 (by omega)) fun v39 hv39 => ?_
  refine Tot.bind (j6 (by omega)) fun v40 hv40 => ?_
  refine Tot.bind (j6 (by omega)) fun v41 hv41 => ?_
  refine Tot.bind (a0p _ _ hl) fun v42 hv42 => ?_
  refine Tot.bind (a0t (by omega) (by omega)) fun v43 hv43 => ?_
  refine Tot.bind (b63 (by omega) (by omega)) fun v44 hv44 => ?_
  refine Tot.bind (j6 (by omega)) fun v45 hv45 => ?_
  refine Tot.bind (j6 (by omega)) fun v46 hv46 => ?_
  refine Tot.bind (j6 (by omega)) fun v47 hv47 => ?_
  refine Tot.bind (a0p _ _ hl) fun v48 hv48 => ?_
  refine Tot.bind (a0t (by omega) (by omega)) fun v49 hv49 => ?_
  refine Tot.bind (b6k (by omega) (by omega)) fun v50 hv50 => ?_
  refine Tot.bind (j6 (by omega)) fun v51 hv51 => ?_
  refine Tot.bind (j6 (by omega)) fun v52 hv52 => ?_
  refine Tot.bind (a0p _ _ hl) fun v53 hv53 => ?_
  refine Tot.bind (a0t (by omega) (by omega)) fun v54 hv54 => ?_
  refine Tot.bind (a6t (by omega) (by omega)) fun v55 hv55 => ?_
  refine Tot.bind (j6 (by omega)) fun v56 hv56 => ?_
  refine Tot.bind (j6 (by omega)) fun v57 hv57 => ?_
  refine Tot.bind (a0p _ _ hl) fun v58 hv58 => ?_
  refine Tot.bind (a0t (by omega) (by omega)) fun v59 hv59 => ?_
  refine Tot.bind (a6t (by omega) (by omega)) fun v60 hv60 => ?_
  refine Tot.bind (j6 (by omega)) fun v61 hv61 => ?_
  refine Tot.bind (j6 (by omega)) fun v62 hv62 => ?_
  refine Tot.bind (j6 (by omega)) fun v63 hv63 => ?_
  refine Tot.bind (a0p _ _ hl) fun v64 hv64 => ?_
  refine Tot.bind (a0t (by omega) (by omega)) fun v65 hv65 => ?_
  refine Tot.bind (a6t (by omega) (by omega)) fun v66 hv66 => ?_
  refine Tot.bind (j6 (by omega)) fun v67 hv67 => ?_
  refine Tot.bind (j6 (by omega)) fun v68 hv68 => ?_
  refine Tot.bind (a0p _ _ hl) fun v69 hv69 => ?_
  refine Tot.bind (a0t (by omega) (by omega)) fun v70 hv70 => ?_
  refine Tot.bind (b63 (by omega) (by omega)) fun v71 hv71 => ?_
  refine Tot.bind (j6 (by omega)) fun v72 hv72 => ?_
  refine Tot.bind (j6 (by omega)) fun v73 hv73 => ?_
  refine Tot.bind (j6 (by omega)) fun v74 hv74 => ?_
  refine Tot.bind (a0p _ _ hl) fun v75 hv75 => ?_
  refine Tot.bind (a0t (by omega) (by omega)) fun v76 hv76 => ?_
  refine Tot.ite (fun hc => ?_) fun hc => ?_
  . skip
    refine Tot.bind (j6 (by omega)) fun v77 hv77 => ?_
    exact Tot.join (a79 _ _ _ hl (by omega))
  . skip
    exact Tot.join (a79 _ _ _ hl (by omega))
theorem a7a (l : List Int) (k : Int) (t s : ByteArray) (hl : l.length <= 9223372036854775807) (ht : t.size <= 8) (hs : s.size <= 800) : Tot (a0y (l, k, t, s)) fun r => r.size <= 2500 := by
  unfold a0y
  try dsimp only
  have hstrh_2afe9d : b8i.size = 18 := by decide
  refine Tot.bind (a0p _ _ hl) fun v25 hv25 => ?_
  refine Tot.bind (a0t (by omega) (by omega)) fun v26 hv26 => ?_
  refine Tot.ite (fun hc => ?_) fun hc => ?_
  . skip
    refine Tot.bind (j6 (by omega)) fun v27 hv27 => ?_
    exact Tot.join (a75 _ _ _ _ hl ht (by omega))
  . skip
    exact Tot.join (a75 _ _ _ _ hl ht (by omega))
theorem a27 (l : List Int) (k : Int) (t s : ByteArray) (hl : l.length <= 9223372036854775807) (ht : t.size <= 8) (hs : s.size <= 400) : Tot (y5 (l, k, t, s)) fun r => r.size <= 2500 := by
  unfold y5
  try dsimp only
  have hstr__3b_ : a3c.size = 2 := by decide
  have hstrh_405077 : b7l.size = 19 := by decide
  have hstrh_f7dc2d : b83.size = 42 := by decide
  refine Tot.bind (a0p _ _ hl) fun v10 hv10 => ?_
  refine Tot.bind (a0t (by omega) (by omega)) fun v11 hv11 => ?_
  refine Tot.bind (b6k (by omega) (by omega)) fun v12 hv12 => ?_
  refine Tot.bind (j6 (by omega)) fun v13 hv13 => ?_
  refine Tot.bind (j6 (by omega)) fun v14 hv14 => ?_
  refine Tot.bind (j6 (by omega)) fun v15 hv15 => ?_
  refine Tot.bind (a0p _ _ hl) fun v16 hv16 => ?_
  refine Tot.bind (a0t (by omega) (by omega)) fun v17 hv17 => ?_
  refine Tot.ite (fun hc => ?_) fun hc => ?_
  . skip
    refine Tot.bind (a0p _ _ hl) fun v18 hv18 => ?_
    refine Tot.bind (a0t (by omega) (by omega)) fun v19 hv19 => ?_
    refine Tot.bind (b6k (by omega) (by omega)) fun v20 hv20 => ?_
    refine Tot.bind (j6 (by omega)) fun v21 hv21 => ?_
    refine Tot.bind (j6 (by omega)) fun v22 hv22 => ?_
    refine Tot.bind (j6 (by omega)) fun v23 hv23 => ?_
    exact Tot.join (a7a _ _ _ _ hl ht (by omega))
  . skip
    exact Tot.join (a7a _ _ _ _ hl ht (by omega))
theorem a0q (a : ByteArray) (l : List Int) (k : Int) (hl : l.length <= 9223372036854775807) (ha : a.size <= 20) : Tot (a0i a l k) fun r => r.size <= 2500 := by
  unfold a0i
  try dsimp only
  have hstr___7b_round_ : a8i.size = 9 := by decide
  have hstr_down_1_3b_ : b3e.size = 8 := by decide
  have hstr_even_10_3b_ : b1x.size = 9 := by decide
  have hstr_from__40 : b2s.size = 6 := by decide
  have hstr_half_5_3b_ : b3d.size = 8 := by decide
  have hstr_up_1_3b_ : b60.size = 6 := by decide
  refine Tot.bind (a0p _ _ hl) fun v1 hv1 => ?_
  refine Tot.bind (a0t (by omega) (by omega)) fun v2 hv2 => ?_
  refine Tot.bind (b6k (by omega) (by omega)) fun v3 hv3 => ?_
  refine Tot.bind (j6 (by omega)) fun v4 hv4 => ?_
  refine Tot.bind (j6 (by omega)) fun v5 hv5 => ?_
  refine Tot.bind (a0p _ _ hl) fun v6 hv6 => ?_
  refine Tot.bind (a0t (by omega) (by omega)) fun v7 hv7 => ?_
  refine Tot.ite (fun hc => ?_) fun hc => ?_
  . skip
    refine Tot.bind (j6 (by omega)) fun v8 hv8 => ?_
    exact Tot.join (a27 _ _ _ _ hl (by omega) (by omega))
  . skip
    refine Tot.ite (fun hc => ?_) fun hc => ?_
    . skip
      refine Tot.bind (j6 (by omega)) fun v110 hv110 => ?_
      exact Tot.join (a27 _ _ _ _ hl (by omega) (by omega))
    . skip
      refine Tot.ite (fun hc => ?_) fun hc => ?_
      . skip
        refine Tot.bind (j6 (by omega)) fun v111 hv111 => ?_
        exact Tot.join (a27 _ _ _ _ hl (by omega) (by omega))
      . skip
        refine Tot.bind (j6 (by omega)) fun v112 hv112 => ?_
        exact Tot.join (a27 _ _ _ _ hl (by omega) (by omega))
theorem a8q (k : Int) (l : List Int) (s : ByteArray) (hl : l.length <= 9223372036854775807) (hs : s.size <= 6000) : Tot (a2a (k, l, s)) fun r => True := by
  unfold a2a
  try dsimp only
  have hstr_2001_2d01_2d01 : a62.size = 10 := by decide
  have hstr__7d : a2i.size = 1 := by decide
  refine Tot.bind (a0p _ _ hl) fun v15 hv15 => ?_
  refine Tot.bind (a0t (by omega) (by omega)) fun v16 hv16 => ?_
  refine Tot.ite (fun hc => ?_) fun hc => ?_
  . skip
    refine Tot.bind (a0q _ _ _ hl (by decide)) fun v17 hv17 => ?_
    refine Tot.bind (j6 (by omega)) fun v18 hv18 => ?_
    refine Tot.bind (j6 (by omega)) fun v19 hv19 => ?_
    exact Tot.some (by first | exact trivial | omega)
  . skip
    refine Tot.bind (j6 (by omega)) fun v20 hv20 => ?_
    exact Tot.some (by first | exact trivial | omega)
theorem b6x {k : Int} (l : List Int) (hl : l.length <= 9223372036854775807) (h0 : 0 <= k) (h3 : k < 3) : Tot (a0m k l) fun r => True := by
  unfold a0m
  try dsimp only
  have hstr_1900_2d01_2d01 : a68.size = 10 := by decide
  have hstr_1996_2d07_2d01 : a67.size = 10 := by decide
  have hstr___7b_ : b9y.size = 3 := by decide
  have hstr__currency_ : a9w.size = 10 := by decide
  have hstr_alba : b4g.size = 4 := by decide
  have hstr_bora : b4n.size = 4 := by decide
  have hstr_cedar : b1w.size = 5 := by decide
  have hstr_statute_ : b33.size = 8 := by decide
  have hn : ∀ x ∈ [b4g, b4n, b1w], x.size <= 10 := by decide
  refine Tot.bind (b2x (l := [b4g, b4n, b1w]) h0 h3) fun v1 hv1 => ?_
  refine Tot.bind (b2x (l := [b4g, b4n, b1w]) h0 h3) fun v2 hv2 => ?_
  have hv2 := hn v2 hv2
  refine Tot.bind (j6 (by omega)) fun v3 hv3 => ?_
  refine Tot.bind (j6 (by omega)) fun v4 hv4 => ?_
  refine Tot.bind (b6k (by omega) (by omega)) fun v5 hv5 => ?_
  refine Tot.bind (j6 (by omega)) fun v6 hv6 => ?_
  refine Tot.bind (j6 (by omega)) fun v7 hv7 => ?_
  refine Tot.bind (a0q _ _ _ hl (by decide)) fun v8 hv8 => ?_
  refine Tot.bind (j6 (by omega)) fun v9 hv9 => ?_
  refine Tot.bind (a0p _ _ hl) fun v10 hv10 => ?_
  refine Tot.bind (a0t (by omega) (by omega)) fun v11 hv11 => ?_
  refine Tot.ite (fun hc => ?_) fun hc => ?_
  . skip
    refine Tot.bind (a0q _ _ _ hl (by decide)) fun v12 hv12 => ?_
    refine Tot.bind (j6 (by omega)) fun v13 hv13 => ?_
    exact Tot.join (a8q _ _ _ hl (by omega))
  . skip
    exact Tot.join (a8q _ _ _ hl (by omega))
end Go.PL
namespace Go.PL
open Go Go.SX
theorem d77 {l : List Int} (hl : l.length <= 9223372036854775807) : Tot (a72 l) fun r => r.length = 15 := by
  unfold a72
  refine Tot.loop (I := fun v : List api_Fact × Int => 1 <= v.2 /\ v.2 <= 3 /\ (v.1.length : Int) = 6 * (v.2 - 1)) (μ := fun v => (3 - v.2).toNat) ⟨Int.le_refl _, by show (1 : Int) <= 3; omega, rfl⟩ (by show (3 - 1 : Int).toNat < _; omega) ?_
  intro r v hI ih
  obtain ⟨g1, g2, g3⟩ := hI
  unfold b1d
  refine Tot.ite (fun hc => ?_) fun hc => ?_
  . simp at hc
    rw [b48 (by omega) (by omega)]
    repeat' first
      | (refine Tot.bind (a0p _ _ hl) fun _ _ => ?_)
      | (refine Tot.bind (a0t (by omega) (by omega)) fun _ _ => ?_)
      | (refine Tot.bind (b6j (by simp; omega)) fun _ h => ?_; subst h)
    exact ih _ ⟨by show 1 <= v.2 + 1; omega, by show v.2 + 1 <= 3; omega, by simp; omega⟩ (by show (3 - (v.2 + 1)).toNat < (3 - v.2).toNat; omega)
  . simp at hc
    repeat' first
      | (refine Tot.bind (a0p _ _ hl) fun _ _ => ?_)
      | (refine Tot.bind (a0t (by omega) (by omega)) fun _ _ => ?_)
      | (refine Tot.bind (b6j (by simp; omega)) fun _ h => ?_; subst h)
    exact Tot.some (by simp; omega)
theorem d0x (a : Int) : Tot (a64 a) fun _ => True := by
  unfold a64
  have h : ∀ k : Int, 0 < k -> k <= 9000 -> Tot (Option.bind (b5i a 4) fun v => Option.bind (b6 v k) fun w => some (i64 (1 + w))) fun _ => True := fun k h0 h1 => Tot.bind (e3y (by decide)) fun _ _ => Tot.bind (a0t h0 (by omega)) fun _ _ => Tot.some trivial
  refine Tot.bind (a0t (by omega) (by omega)) fun m _ => Tot.ite (fun _ => h _ (by omega) (by omega)) fun _ => Tot.ite (fun _ => h _ (by omega) (by omega)) fun _ => Tot.ite (fun _ => h _ (by omega) (by omega)) fun _ => h _ (by omega) (by omega)
theorem d63 (k : Int) : Tot (a4t k) fun s => s.size <= 10 := by
  unfold a4t
  rw [a99, Option.bind_some]
  refine Tot.ite (fun _ => Tot.some (by decide)) fun h => ?_
  simp at h
  have hs : ∀ x ∈ [a1f, a81, a4x, a4x, b6f, a6h, b2o, a6h, a6h, a6h, b66, b5j, b5j, b5j, c0q], x.size <= 10 := by decide
  exact Tot.bind (b2x (by omega) (by simp; omega)) fun _ _ => Tot.bind (b2x (by omega) (by simp; omega)) fun x hx => Tot.some (hs x hx)
theorem e3a (a : pensionhand_Fact) : Tot (a7s a) fun _ => True := by
  have j : ∀ q, Tot (a2f q) fun _ => True := by
    intro q
    unfold a2f
    refine Tot.bind (d63 _) fun s hs => ?_
    refine Tot.loop (σ := pensionhand_Fact × api_Fact × api_Fact × Int) (I := fun v => 0 <= v.2.2.2) (μ := fun v => ((s.size : Int) - v.2.2.2).toNat) (Int.le_refl _) (by show ((s.size : Int) - 0).toNat < _; omega) ?_
    intro r v g1 ih
    unfold b28
    refine Tot.ite (fun hc => ?_) fun _ => Tot.some trivial
    simp at hc
    have nx : ∀ (x : pensionhand_Fact) (y z : api_Fact), Tot (r (x, y, z, i64 (v.2.2.2 + 1))) fun _ => True := fun x y z => by
      rw [b48 g1 (by omega)]
      exact ih _ (by show 0 <= v.2.2.2 + 1; omega) (by show ((s.size : Int) - (v.2.2.2 + 1)).toNat < ((s.size : Int) - v.2.2.2).toNat; omega)
    refine Tot.bind (e29 g1 hc) fun b _ => ?_
    simp only [a4o, Option.bind_some]
    repeat' first
      | exact nx _ _ _
      | (refine Tot.ite (fun _ => ?_) fun _ => ?_)
      | (refine Tot.bind (a0t (by omega) (by omega)) fun _ _ => ?_)
      | (refine Tot.bind (e4c (by decide)) fun _ _ => ?_)
  unfold a7s
  repeat' first
    | exact Tot.join (j _)
    | (refine Tot.ite (fun _ => ?_) fun _ => ?_)
    | (refine Tot.bind (a0t (by omega) (by omega)) fun _ _ => ?_)
    | (refine Tot.bind (d0x _) fun _ _ => ?_)
theorem d6s (l : List pensionhand_Fact) : Tot (a70 l) fun r => r.length <= 12 := by
  unfold a70
  refine Tot.loop (I := fun v : List api_Fact × Int => 0 <= v.2 /\ v.2 <= 12 /\ (v.1.length : Int) = v.2) (μ := fun v => (12 - v.2).toNat) ⟨Int.le_refl _, by show (0 : Int) <= 12; omega, rfl⟩ (by show (12 - 0 : Int).toNat < _; omega) ?_
  intro r v hI ih
  obtain ⟨g1, g2, g3⟩ := hI
  unfold b12
  rw [a4o, Option.bind_some]
  refine Tot.ite (fun hc => ?_) fun _ => Tot.some (by omega)
  simp at hc
  refine Tot.bind (b2x g1 (by omega)) fun x _ => Tot.bind (e3a x) fun f _ => Tot.bind (b6j (by simp; omega)) fun a ha => ?_
  subst ha
  rw [b48 g1 (by omega)]
  exact ih _ ⟨by show 0 <= v.2 + 1; omega, by show v.2 + 1 <= 12; omega, by simp; omega⟩ (by show (12 - (v.2 + 1)).toNat < (12 - v.2).toNat; omega)
end Go.PL
namespace Go.PL
open Go Go.SX
def c6z (k : Int) : Prop := ∃ (s : ByteArray) (bS bT bH bC bA bR : Bool), a8u k = some s /\ (s.toList == a1f.toList) = false /\ a0f f1g s = some bS /\ a0f f3t s = some bT /\ a0f f40 s = some bH /\ a0f f4y s = some bC /\ a0f f1m s = some bA /\ a0f f2u s = some bR
theorem e8a : c6z 1 := ⟨a81, true, true, true, true, true, false, by kernel_rfl, by kernel_rfl, by kernel_rfl, by kernel_rfl, by kernel_rfl, by kernel_rfl, by kernel_rfl, by kernel_rfl⟩
theorem e93 : c6z 2 := ⟨a4x, true, false, true, true, true, false, by kernel_rfl, by kernel_rfl, by kernel_rfl, by kernel_rfl, by kernel_rfl, by kernel_rfl, by kernel_rfl, by kernel_rfl⟩
theorem e99 : c6z 4 := ⟨b6f, true, true, false, false, false, false, by kernel_rfl, by kernel_rfl, by kernel_rfl, by kernel_rfl, by kernel_rfl, by kernel_rfl, by kernel_rfl, by kernel_rfl⟩
theorem e89 : c6z 5 := ⟨a6h, true, false, false, false, false, false, by kernel_rfl, by kernel_rfl, by kernel_rfl, by kernel_rfl, by kernel_rfl, by kernel_rfl, by kernel_rfl, by kernel_rfl⟩
theorem f06 : c6z 6 := ⟨b2o, true, false, false, true, true, false, by kernel_rfl, by kernel_rfl, by kernel_rfl, by kernel_rfl, by kernel_rfl, by kernel_rfl, by kernel_rfl, by kernel_rfl⟩
theorem e49 : c6z 10 := ⟨b66, true, false, false, false, false, true, by kernel_rfl, by kernel_rfl, by kernel_rfl, by kernel_rfl, by kernel_rfl, by kernel_rfl, by kernel_rfl, by kernel_rfl⟩
theorem e4q : c6z 11 := ⟨b5j, false, false, false, false, false, false, by kernel_rfl, by kernel_rfl, by kernel_rfl, by kernel_rfl, by kernel_rfl, by kernel_rfl, by kernel_rfl, by kernel_rfl⟩
theorem e3u : c6z 14 := ⟨c0q, false, false, false, false, false, true, by kernel_rfl, by kernel_rfl, by kernel_rfl, by kernel_rfl, by kernel_rfl, by kernel_rfl, by kernel_rfl, by kernel_rfl⟩
theorem e3x {k : Int} (h0 : 1 <= k) (h1 : k <= 14) : c6z k := by
  have : k = 1 \/ k = 2 \/ k = 3 \/ k = 4 \/ k = 5 \/ k = 6 \/ k = 7 \/ k = 8 \/ k = 9 \/ k = 10 \/ k = 11 \/ k = 12 \/ k = 13 \/ k = 14 := by omega
  rcases this with rfl | rfl | rfl | rfl | rfl | rfl | rfl | rfl | rfl | rfl | rfl | rfl | rfl | rfl
  all_goals first | exact e8a | exact e93 | exact usesp_3 | exact e99 | exact e89 | exact f06 | exact usesp_7 | exact usesp_8 | exact usesp_9 | exact e49 | exact e4q | exact usesp_12 | exact usesp_13 | exact e3u
theorem e0l {k : Int} (h : k < 1 \/ 15 <= k) : a8u k = some a1f := by
  have e : ∀ j : Int, 1 <= j -> j <= 14 -> (k == j) = false := by intro j _ _; simp; omega
  unfold a8u b62 b03 b2p joinC
  simp [e 1, e 2, e 3, e 4, e 5, e 6, e 7, e 8, e 9, e 10, e 11, e 12, e 13, e 14]
theorem c4y {s c : ByteArray} {x lo hi : Int} {b : Bool} (h : a0f c s = some b) : ∃ v, (Option.bind (a0f c s) fun z => a6u z x lo hi) = some v := by
  unfold a6u a69
  rw [h]
  simp only [a4o, a99, Option.bind_some]
  exact ⟨_, rfl⟩
theorem d1d {α β γ : Type} (a : Option α) (f : α -> Option β) (g : β -> Option γ) : (Option.bind a fun x => Option.bind (f x) g) = Option.bind (Option.bind a f) g := by cases a <;> rfl
set_option maxHeartbeats 4000000 in
theorem d7l (d : api_Fact) : ∃ b, a4u d = some b /\ (b = true -> (1 <= d.Kind /\ d.Kind <= 14) /\ (0 <= d.Issuer /\ d.Issuer <= 5) /\ (1 <= d.Number /\ d.Number <= 999) /\ 1 <= d.Version /\ d.Version <= 99 /\ 1 <= d.Person /\ d.Person <= 99) := by
  by_cases hk : 1 <= d.Kind /\ d.Kind <= 14
  . obtain ⟨s, bS, bT, bH, bC, bA, bR, h1, h3, hS, hT, hH, hC, hA, hR⟩ := e3x hk.1 hk.2
    obtain ⟨vS, fS⟩ := c4y (x := d.State) (lo := 0) (hi := 5) hS
    obtain ⟨vT, fT⟩ := c4y (x := d.Seat) (lo := 0) (hi := 5) hT
    obtain ⟨vH, fH⟩ := c4y (x := d.Share) (lo := 1) (hi := 100) hH
    obtain ⟨vC, fC⟩ := c4y (x := d.Currency) (lo := 1) (hi := 999) hC
    obtain ⟨vA, fA⟩ := c4y (x := d.Amount) (lo := 0) (hi := 1000000000) hA
    obtain ⟨vR, fR⟩ := c4y (x := d.Ref) (lo := 1) (hi := 99) hR
    unfold a4u
    simp only [d1d, fS, fT, fH, fC, fA, fR, h1, Option.bind_some, h3, Bool.false_eq_true, if_false]
    unfold a69 b3g b4h b4y joinC
    simp only [Option.bind_some, a99, a4o]
    split
    . exact ⟨false, rfl, fun h => by cases h⟩
    . rename_i hI
      have hr : (0 <= d.Issuer /\ d.Issuer <= 5) /\ (1 <= d.Number /\ d.Number <= 999) /\ 1 <= d.Version /\ d.Version <= 99 /\ 1 <= d.Person /\ d.Person <= 99 := by simp at hI; omega
      repeat' first
        | exact ⟨_, rfl, fun _ => ⟨hk, hr⟩⟩
        | split
  . have h1 := e0l (k := d.Kind) (by omega)
    refine ⟨false, ?_, fun h => by cases h⟩
    unfold a4u
    simp [h1]
def vld (f : api_Fact) : Bool := (a4u f).getD false
theorem b6l (f : api_Fact) : a4u f = some (vld f) := by
  obtain ⟨b, h, _⟩ := d7l f
  unfold vld; rw [h]; rfl
theorem e9x {d : api_Fact} (h : vld d = true) : (1 <= d.Kind /\ d.Kind <= 14) /\ (0 <= d.Issuer /\ d.Issuer <= 5) /\ (1 <= d.Number /\ d.Number <= 999) /\ 1 <= d.Version /\ d.Version <= 99 /\ 1 <= d.Person /\ d.Person <= 99 := by
  obtain ⟨b, e, h2⟩ := d7l d
  unfold vld at h
  rw [e] at h
  exact h2 h
theorem e40 {d : api_Fact} (h : vld d = true) : 1 <= d.Kind /\ d.Kind <= 14 := (e9x h).1
end Go.PL
namespace Go.PL
open Go
theorem b1g {α β : Type} (f : α -> Option β) (a : α) : Go.SX.joinC f a = f a := rfl
theorem e54 {i n : Nat} (h : i < n) : (decide ((i : Int) < (n : Int))) = true := by simp; omega
theorem e0z (n : Nat) : ¬ (decide ((n : Int) < (n : Int))) = true := by simp
theorem d25 {α : Type} {f : (List α × Int -> Option (List α)) -> List α × Int -> Option (List α)} {k : Nat} (l : List α) (p : α -> Bool) (hl : l.length <= 2 ^ 30) (hk : k <= 1000)
    (hstep : ∀ (rec : List α × Int -> Option (List α)) (s : List α) (i : Nat) (y : α), l[i]? = some y -> f rec (s, (i : Int)) = if p y = true then Option.bind (a8w k s [y]) (fun a => rec (a, i64 ((i : Int) + 1))) else rec (s, i64 ((i : Int) + 1)))
    (hfin : ∀ (rec : List α × Int -> Option (List α)) (s : List α), f rec (s, (l.length : Int)) = some s) : d9 FU f ([], 0) = some (l.filter p) := by
  refine b61 (f := f) l (fun s i => (s, i)) (fun s i => s = (l.take i).filter p) (fun o => o = some (l.filter p)) (by omega) ?_ ?_ [] (by simp)
  . rintro rec s i y hi hy rfl
    right
    have hlen : ((l.take i).filter p).length <= i := by
      have := List.length_filter_le p (l.take i); rw [List.length_take] at this; omega
    rw [hstep _ _ _ _ hy, b94 (by omega), c6v hy, List.filter_append]
    by_cases hc : p y = true
    . rw [if_pos hc, a9f (by
        simp only [List.length_cons, List.length_nil]
        calc (((l.take i).filter p).length + 1) * k <= (2 ^ 30 + 1) * 1000 := Nat.mul_le_mul (by omega) hk
          _ <= _ := by omega), Option.bind_some]
      exact ⟨_, rfl, by simp [hc]⟩
    . rw [if_neg hc]
      rw [Bool.not_eq_true] at hc
      exact ⟨_, rfl, by simp [hc]⟩
  . rintro rec s rfl
    rw [hfin, List.take_length]
end Go.PL
namespace Go.PL
open Go Go.SX
def ofP (l : List api_Fact) (p : Int) : List api_Fact := l.filter fun f => f.Person == p
theorem f2m (l : List api_Fact) (p : Int) (hl : l.length <= 2 ^ 30) : b3t l p = some (ofP l p) := by
  unfold b3t a3q ofP
  rw [d25 (k := 112) l (fun f => f.Person == p) hl (by omega) (fun rec s i y hy => ?_) fun rec s => ?_, Option.bind_some]
  . have hi := (List.getElem?_eq_some_iff.1 hy).1
    unfold a2q b82
    dsimp only
    rw [if_pos (e54 hi)]
    simp only [c37 hy, Option.bind_some]
  . unfold a2q
    dsimp only
    rw [if_neg (e0z _)]
end Go.PL
namespace Go.PL
open Go Go.SX
def b3p (n : Int) : Nat -> List Int
  | 0 => []
  | k + 1 => IntKind.u8.wrap (f0y .i64 n (8 * k)) :: b3p n k
theorem b2z (n : Int) : ∀ k, (b3p n k).length = k
  | 0 => rfl
  | k + 1 => by simp [b3p, b2z n k]
theorem d7w (b : List Int) (k : Nat) (xs : List Int) (hk : k <= 8) (hx : xs.length <= 1000) (hb : b.length <= 100000) : l6 b (k : Int) xs = some (b ++ xs.flatMap fun n => b3p n k) := by
  unfold l6
  have hfl : ∀ ys : List Int, (ys.flatMap fun n => b3p n k).length = ys.length * k := by
    intro ys
    induction ys with
    | nil => simp
    | cons y ys ih => rw [List.flatMap_cons, List.length_append, ih, b2z, List.length_cons, Nat.succ_mul]; omega
  refine b61 (f := a4i xs (k : Int)) xs (fun s i => (s, i)) (fun s i => s = b ++ (xs.take i).flatMap fun n => b3p n k) (fun o => o = some (b ++ xs.flatMap fun n => b3p n k)) (by omega) ?_ ?_ b (by simp)
  . rintro rec s i y hi hy rfl
    right
    refine ⟨_, ?_, rfl⟩
    unfold a4i
    dsimp only
    rw [if_pos (by simp; omega), c37 hy, Option.bind_some]
    have hlen : (b ++ (xs.take i).flatMap fun n => b3p n k).length <= 108000 := by
      rw [List.length_append, hfl, List.length_take]
      have : min i xs.length * k <= 1000 * 8 := Nat.mul_le_mul (by omega) hk
      omega
    have htk : (xs.take (i + 1)).flatMap (fun n => b3p n k) = ((xs.take i).flatMap fun n => b3p n k) ++ b3p y k := by rw [c6v hy, List.flatMap_append]; simp
    rw [htk, <- List.append_assoc]
    generalize (b ++ (xs.take i).flatMap fun n => b3p n k) = c at hlen ⊢
    refine b9o (f := a6f y rec (c, (i : Int))) (fun st => ∃ (q : List Int) (j : Nat), st = (q, (j : Int) - 1) /\ j <= k /\ q ++ b3p y j = c ++ b3p y k) (fun st => (st.2 + 1).toNat) (fun o => o = rec (c ++ b3p y k, ((i + 1 : Nat) : Int)))
      (s := (c, i64 ((k : Int) - 1))) ⟨c, k, by rw [i8 (by omega) (by omega)], Nat.le_refl _, rfl⟩ (by rw [i8 (by omega) (by omega)]; dsimp only; omega) ?_
    rintro st rec2 ⟨q, j, rfl, hj, hq⟩
    unfold a6f
    dsimp only
    cases j with
    | zero =>
      left
      rw [if_neg (by simp), b94 (by omega)]
      congr 2
      simpa [b3p] using hq
    | succ j =>
      right
      have e1 : ((j + 1 : Nat) : Int) - 1 = (j : Int) := by omega
      have hql : q.length <= 108008 := by
        have := congrArg List.length hq
        rw [List.length_append, List.length_append, b2z, b2z] at this; omega
      rw [e1, if_pos (by simp), i8 (n := 8 * (j : Int)) (by omega) (by omega)]
      unfold d68
      rw [if_neg (by omega), Option.bind_some, a9f (by simp; omega), Option.bind_some, i8 (n := (j : Int) - 1) (by omega) (by omega)]
      refine ⟨_, rfl, ⟨_, j, rfl, by omega, ?_⟩, by dsimp only; omega⟩
      rw [<- hq, List.append_assoc]; rfl
  . rintro rec s rfl
    unfold a4i
    dsimp only
    rw [if_neg (by simp), List.take_length]
def d6d (d : api_Fact) (c : Int) : List Int :=
  if c = 83 then b3p d.State 1 else if c = 80 then b3p d.Span.From 3 ++ b3p d.Span.To 3 else if c = 84 then b3p d.Seat 1 else if c = 72 then b3p d.Share 1 else if c = 67 then b3p d.Currency 2 else if c = 65 then b3p d.Amount 4 else if c = 82 then b3p d.Ref 1 else []
theorem e28 (d : api_Fact) (c : Int) : (d6d d c).length <= 6 := by
  unfold d6d
  repeat' split
  all_goals simp [b2z]
def c4c (s : ByteArray) : Prop := s.size <= 10 /\ ∀ i : Nat, i < s.size -> a8y s (i : Int) = some ((s.get! i).toNat : Int) /\ (s.get! i).toNat < 128
def d1x (s : ByteArray) (i : Nat) : List Int := (List.range i).map fun j => ((s.get! j).toNat : Int)
theorem d9n (s : ByteArray) (i : Nat) : d1x s (i + 1) = d1x s i ++ [((s.get! i).toNat : Int)] := by unfold d1x; rw [List.range_succ, List.map_append]; rfl
theorem b9m (d : api_Fact) : ∀ l : List Int, (l.flatMap (d6d d)).length <= 6 * l.length
  | [] => by simp
  | c :: l => by
    have := b9m d l
    have h := e28 d c
    rw [List.flatMap_cons, List.length_append, List.length_cons]; omega
theorem f2n (b : List Int) (k : Nat) (x : Int) (hk : k <= 8) (hb : b.length <= 100000) : l6 b (k : Int) [x] = some (b ++ b3p x k) := by
  rw [d7w b k [x] hk (by simp) hb]; simp
set_option maxHeartbeats 1000000 in
theorem d8c (d : api_Fact) (s : ByteArray) (hs : c4c s) (b : List Int) (hb : b.length <= 1000) : d9 FU b1h (d, b, (s, 0)) = some (b ++ (d1x s s.size).flatMap (d6d d)) := by
  have := a9y (f := b1h) (fun st => ∃ i : Nat, st = (d, b ++ (d1x s i).flatMap (d6d d), (s, (i : Int))) /\ i <= s.size) (fun st => s.size - st.2.2.2.toNat) (fun r => r = b ++ (d1x s s.size).flatMap (d6d d))
    (s := (d, b, (s, 0))) ⟨0, by simp [d1x], Nat.zero_le _⟩ (by dsimp only; have := hs.1; omega) ?_
  . obtain ⟨r, h1, h2⟩ := this; rw [h1, h2]
  . rintro st rec ⟨i, rfl, hi⟩
    have hlen : (b ++ (d1x s i).flatMap (d6d d)).length <= 2000 := by
      have := b9m d (d1x s i)
      have hl : (d1x s i).length = i := by simp [d1x]
      have := hs.1
      rw [List.length_append]; omega
    unfold b1h
    dsimp only
    by_cases h : i < s.size
    . right
      obtain ⟨_, h2⟩ := hs.2 i h
      have hn : c2q s (i : Int) = some (some ((s.get! i).toNat : Int)) := by unfold c2q; rw [if_pos (by omega), Int.toNat_natCast, if_pos h2]
      rw [hn]
      refine ⟨(d, b ++ (d1x s (i + 1)).flatMap (d6d d), (s, ((i + 1 : Nat) : Int))), ?_, ⟨i + 1, rfl, h⟩, by simp only [Int.toNat_natCast]; omega⟩
      rw [d9n, List.flatMap_append, <- List.append_assoc]
      generalize b ++ (d1x s i).flatMap (d6d d) = q at hlen ⊢
      generalize ((s.get! i).toNat : Int) = c
      simp only [List.flatMap_cons, List.flatMap_nil, List.append_nil]
      have a1 : ∀ x, l6 q 1 [x] = some (q ++ b3p x 1) := fun x => f2n q 1 x (by omega) (by omega)
      have a2 : ∀ x, l6 q 2 [x] = some (q ++ b3p x 2) := fun x => f2n q 2 x (by omega) (by omega)
      have a4 : ∀ x, l6 q 4 [x] = some (q ++ b3p x 4) := fun x => f2n q 4 x (by omega) (by omega)
      have a3 : ∀ x y, l6 q 3 [x, y] = some (q ++ (b3p x 3 ++ b3p y 3)) := fun x y => by
        have := d7w q 3 [x, y] (by omega) (by simp) (by omega)
        simpa using this
      have ei : ((i : Int) + 1) = ((i + 1 : Nat) : Int) := by simp
      unfold d6d
      simp only [optC, a1, a2, a3, a4, Option.bind_some, beq_iff_eq, ei]
      repeat' split
      all_goals first | rfl | simp
    . left
      have : i = s.size := by omega
      subst this
      have hn : c2q s (s.size : Int) = none := by unfold c2q; rw [if_neg (by omega)]
      rw [hn]
      exact ⟨_, rfl, rfl⟩
theorem d4r : c4c a81 := ⟨by decide, by decide⟩
theorem d0h : c4c a4x := ⟨by decide, by decide⟩
theorem e9w : c4c b6f := ⟨by decide, by decide⟩
theorem d3i : c4c a6h := ⟨by decide, by decide⟩
theorem e2a : c4c b2o := ⟨by decide, by decide⟩
theorem f03 : c4c b66 := ⟨by decide, by decide⟩
theorem e9o : c4c b5j := ⟨by decide, by decide⟩
theorem f1i : c4c c0q := ⟨by decide, by decide⟩
theorem e4k {k : Int} (h0 : 1 <= k) (h1 : k <= 14) : ∃ s, a8u k = some s /\ a4t k = some s /\ c4c s := by
  have : k = 1 \/ k = 2 \/ k = 3 \/ k = 4 \/ k = 5 \/ k = 6 \/ k = 7 \/ k = 8 \/ k = 9 \/ k = 10 \/ k = 11 \/ k = 12 \/ k = 13 \/ k = 14 := by omega
  rcases this with rfl | rfl | rfl | rfl | rfl | rfl | rfl | rfl | rfl | rfl | rfl | rfl | rfl | rfl
  exact ⟨a81, by kernel_rfl, by kernel_rfl, d4r⟩
  exact ⟨a4x, by kernel_rfl, by kernel_rfl, d0h⟩
  exact ⟨a4x, by kernel_rfl, by kernel_rfl, d0h⟩
  exact ⟨b6f, by kernel_rfl, by kernel_rfl, e9w⟩
  exact ⟨a6h, by kernel_rfl, by kernel_rfl, d3i⟩
  exact ⟨b2o, by kernel_rfl, by kernel_rfl, e2a⟩
  exact ⟨a6h, by kernel_rfl, by kernel_rfl, d3i⟩
  exact ⟨a6h, by kernel_rfl, by kernel_rfl, d3i⟩
  exact ⟨a6h, by kernel_rfl, by kernel_rfl, d3i⟩
  exact ⟨b66, by kernel_rfl, by kernel_rfl, f03⟩
  exact ⟨b5j, by kernel_rfl, by kernel_rfl, e9o⟩
  exact ⟨b5j, by kernel_rfl, by kernel_rfl, e9o⟩
  exact ⟨b5j, by kernel_rfl, by kernel_rfl, e9o⟩
  exact ⟨c0q, by kernel_rfl, by kernel_rfl, f1i⟩
def f1l (d : api_Fact) : List Int := [if d.Withdrawn = true then (1 : Int) else 0, d.Person, d.Kind].flatMap (fun n => b3p n 1) ++ ((d1x ((a8u d.Kind).getD a1f) ((a8u d.Kind).getD a1f).size).flatMap (d6d d))
def d2e (d : api_Fact) : List Int := b3p d.Issuer 1 ++ (b3p d.Number 2 ++ (b3p d.Version 1 ++ f1l d))
theorem c4h (d : api_Fact) (h : vld d = true) : b3q d = some (d2e d) := by
  obtain ⟨k0, k1⟩ := e40 h
  obtain ⟨s, e1, _, hs⟩ := e4k k0 k1
  have key : ∀ x : Int, b1n (d, x) = some (b3p d.Issuer 1 ++ (b3p d.Number 2 ++ (b3p d.Version 1 ++ ([x, d.Person, d.Kind].flatMap (fun n => b3p n 1) ++ (d1x s s.size).flatMap (d6d d))))) := by
    intro x
    unfold b1n
    dsimp only
    have a1 := f2n [] 1 d.Issuer (by omega) (by simp)
    have a2 := f2n ([] ++ b3p d.Issuer 1) 2 d.Number (by omega) (by simp [b2z])
    have a3 := d7w ([] ++ b3p d.Issuer 1 ++ b3p d.Number 2) 1 [d.Version, x, d.Person, d.Kind] (by omega) (by simp) (by simp [b2z])
    have c1 : ((1 : Nat) : Int) = 1 := rfl
    have c2 : ((2 : Nat) : Int) = 2 := rfl
    rw [c1] at a1 a3; rw [c2] at a2
    rw [a1, Option.bind_some, a2, Option.bind_some, a3, Option.bind_some, e1, Option.bind_some, d8c d s hs _ (by simp [b2z])]
    simp
  unfold b3q d2e f1l
  rw [b6l, h, Option.bind_some, if_neg (by simp), e1]
  cases hw : d.Withdrawn
  . rw [if_neg (by simp)]; rw [b1g, key]; simp
  . rw [if_pos rfl]; rw [b1g, key]; simp
end Go.PL
namespace Go.PL
open Go Go.SX
theorem d33 : ∀ (x y : List UInt8), (Lib.compareBytes x y < 0) ↔ Op.bytesLess x y = true
  | [], [] => by simp [Lib.compareBytes, Op.bytesLess]
  | [], _ :: _ => by simp [Lib.compareBytes, Op.bytesLess]
  | _ :: _, [] => by simp [Lib.compareBytes, Op.bytesLess]
  | a :: x, b :: y => by
    have ih := d33 x y
    unfold Lib.compareBytes Op.bytesLess
    by_cases h1 : a < b
    . simp [h1]
    . by_cases h2 : b < a
      . have h3 : (a == b) = false := by
          rw [beq_eq_false_iff_ne]; rintro rfl; exact h1 h2
        simp [h1, h2, h3]
      . have h3 : a = b := by
          have e1 : ¬ a.toNat < b.toNat := h1
          have e2 : ¬ b.toNat < a.toNat := h2
          exact UInt8.toNat_inj.1 (by omega)
        subst h3
        simp [h1, ih]
def e4u (a b : api_Fact) : Bool := Op.bytesLess (Lib.bytesOf (d2e a)) (Lib.bytesOf (d2e b))
theorem d89 {a b : api_Fact} (ha : vld a = true) (hb : vld b = true) : b8v a b = some (e4u a b) := by
  unfold b8v
  rw [b6l, b6l, ha, hb]
  simp only [Option.bind_some, Bool.not_true, Bool.false_eq_true, if_false]
  rw [c4h a ha, c4h b hb]
  simp only [Option.bind_some]
  unfold b53 b1z f3d e4u
  simp only [Option.bind_some, List.map_id']
  congr 1
  rw [Bool.eq_iff_iff, decide_eq_true_eq]
  exact d33 _ _
end Go.PL
namespace Go.PL
open Go Go.SX
def c6u (a b : api_Fact) : Prop := a.Issuer < b.Issuer \/ (a.Issuer = b.Issuer /\ a.Number < b.Number)
instance (a b : api_Fact) : Decidable (c6u a b) := by unfold c6u; exact inferInstance
def d07 : List api_Fact -> api_Fact -> List api_Fact
  | [], f => [f]
  | a :: t, f => if c6u a f then a :: d07 t f else if c6u f a then f :: a :: t else (if e4u a f = true then f else a) :: t
theorem d2r (f : api_Fact) : ∀ l, (d07 l f).length <= l.length + 1
  | [] => Nat.le_refl _
  | a :: t => by
    have := d2r f t
    unfold d07
    split
    . simp; omega
    . split <;> simp
theorem c7j {f u : api_Fact} : ∀ {l : List api_Fact}, u ∈ d07 l f -> u ∈ l \/ u = f
  | [], h => by rw [d07, List.mem_singleton] at h; exact .inr h
  | a :: t, h => by
    unfold d07 at h
    split at h
    . rcases List.mem_cons.1 h with h | h
      . exact .inl (h ▸ List.mem_cons_self ..)
      . exact (c7j h).imp (List.mem_cons_of_mem _) id
    . split at h
      . rcases List.mem_cons.1 h with h | h
        . exact .inr h
        . exact .inl h
      . rcases List.mem_cons.1 h with h | h
        . split at h
          . exact .inr h
          . exact .inl (h ▸ List.mem_cons_self ..)
        . exact .inl (List.mem_cons_of_mem _ h)
theorem d4b {a b c : api_Fact} (h1 : c6u a b) (h2 : c6u b c) : c6u a c := by unfold c6u at *; omega
theorem d35 {f : api_Fact} : ∀ {l : List api_Fact}, l.Pairwise c6u -> (d07 l f).Pairwise c6u
  | [], _ => List.pairwise_singleton _ _
  | a :: t, h => by
    obtain ⟨h1, h2⟩ := List.pairwise_cons.1 h
    unfold d07
    split
    . rename_i hc
      refine List.pairwise_cons.2 ⟨fun u hu => ?_, d35 h2⟩
      rcases c7j hu with h | h
      . exact h1 u h
      . rw [h]; exact hc
    . rename_i hn
      split
      . rename_i hc
        refine List.pairwise_cons.2 ⟨fun u hu => ?_, h⟩
        rcases List.mem_cons.1 hu with h | h
        . rw [h]; exact hc
        . exact d4b hc (h1 u h)
      . rename_i hm
        refine List.pairwise_cons.2 ⟨fun u hu => ?_, h2⟩
        have := h1 u hu
        split
        . unfold c6u at *; omega
        . exact this
theorem e6a (x y : Int) : o6 x y = some (if x < y then -1 else if y < x then 1 else 0) := by
  unfold o6 a5i
  simp only [bne_self_eq_false, Option.bind_some, Bool.false_eq_true, if_false, decide_eq_true_eq]
  split
  . rfl
  . split <;> rfl
theorem e9e (a b : api_Fact) : a6v a b = some (if c6u a b then -1 else if c6u b a then 1 else 0) := by
  have hor : ∀ x y : Int, a4f [x, y] = some (if x ≠ 0 then x else y) := by
    intro x y
    unfold a4f
    refine b61 (f := a47 [x, y]) [x, y] (fun (_ : Unit) i => i) (fun _ i => (1 <= i -> x = 0) /\ (2 <= i -> y = 0)) (fun o => o = some (if x ≠ 0 then x else y)) (by simp) ?_ ?_ () ⟨fun h => by omega, fun h => by omega⟩
    . rintro rec _ i v hi hv ⟨h1, h2⟩
      unfold a47
      rw [if_pos (by simp at hi ⊢; omega), c37 hv, Option.bind_some, b94 (by simp at hi; omega)]
      simp at hi
      have : i = 0 \/ i = 1 := by omega
      rcases this with rfl | rfl
      . simp at hv; subst hv
        by_cases hx : x = 0
        . right; rw [if_neg (by simp [hx])]; exact ⟨(), rfl, fun _ => hx, fun h => by omega⟩
        . left; rw [if_pos (by simp [hx]), if_pos hx]
      . simp at hv; subst hv
        have hx := h1 (Nat.le_refl _)
        by_cases hy : y = 0
        . right; rw [if_neg (by simp [hy])]; exact ⟨(), rfl, fun _ => hx, fun _ => hy⟩
        . left; rw [if_pos (by simp [hy]), if_neg (by simp [hx])]
    . rintro rec _ ⟨h1, h2⟩
      have hx := h1 (by simp)
      have hy := h2 (by simp)
      unfold a47
      rw [if_neg (by simp), hx, hy]; rfl
  unfold a6v
  rw [e6a, Option.bind_some, e6a, Option.bind_some, hor, Option.bind_some]
  congr 1
  unfold c6u
  by_cases h1 : a.Issuer < b.Issuer
  . simp [h1]
  . by_cases h2 : b.Issuer < a.Issuer
    . have : ¬ a.Issuer = b.Issuer := by omega
      have : ¬ b.Issuer = a.Issuer := by omega
      simp [*]
    . have e : a.Issuer = b.Issuer := by omega
      simp [e]
theorem d5c {a b : api_Fact} (ha : vld a = true) (hb : vld b = true) : a9v a b = some (if e4u a b = true then b else a) := by
  unfold a9v
  rw [d89 ha hb, Option.bind_some]
  split <;> rfl
def d6b := g8
theorem d28 (k : Nat) (d x : List api_Fact) (hl : x.length + d.length <= 2 ^ 30) : d9 (k + 1) d6b (d, [], x) = some (x ++ d) := by
  show d6b (d9 k d6b) (d, [], x) = _
  unfold d6b g8
  dsimp only
  rw [a4o, Option.bind_some, if_neg (by simp), a9f (by omega), Option.bind_some, a9f (by simp; omega), Option.bind_some, List.append_nil]
theorem d7m {f : api_Fact} (hf : vld f = true) : ∀ (d x : List api_Fact) (k : Nat), (∀ u ∈ d, vld u = true) -> x.length + d.length <= 2 ^ 29 -> d.length + 2 <= k -> d9 k d6b (d, [f], x) = some (x ++ d07 d f)
  | [], x, k, _, hl, hk => by
    obtain ⟨k, rfl⟩ : ∃ j, k = j + 1 := ⟨k - 1, by omega⟩
    show d6b (d9 k d6b) ([], [f], x) = _
    unfold d6b g8
    dsimp only
    rw [a4o, Option.bind_some, if_neg (by simp), a9f (by simp at hl ⊢; omega), Option.bind_some, a9f (by simp at hl ⊢; omega), Option.bind_some, List.append_nil]; rfl
  | a :: d, x, k, hd, hl, hk => by
    obtain ⟨k, rfl⟩ : ∃ j, k = j + 1 := ⟨k - 1, by omega⟩
    simp only [List.length_cons] at hl hk
    have ha := hd a (List.mem_cons_self ..)
    have hd' : ∀ u ∈ d, vld u = true := fun u hu => hd u (List.mem_cons_of_mem _ hu)
    have s1 : a3w (a :: d) 1 ((a :: d).length : Int) = some d := by
      rw [b3u (by omega) (by simp; omega) (Int.le_refl _)]; simp
    have s2 : a3w [f] 1 (([f] : List api_Fact).length : Int) = some [] := by
      rw [b3u (by omega) (by simp) (Int.le_refl _)]; rfl
    have ih := d7m hf d (x ++ [a]) k hd' (by simp; omega) (by omega)
    show d6b (d9 k d6b) (a :: d, [f], x) = _
    generalize hLP : d9 k d6b = LP at ih
    unfold d6b g8
    dsimp only
    have g1 : l8 (a :: d) 0 = some a := rfl
    have g2 : l8 [f] 0 = some f := rfl
    rw [a4o, Option.bind_some, if_pos (by simp)]
    simp only [g1, g2, Option.bind_some, e9e]
    unfold d07
    by_cases h1 : c6u a f
    . rw [if_pos h1, if_pos h1, if_pos (by decide), a9f (by simp; omega), Option.bind_some, s1, Option.bind_some, ih]; simp
    . rw [if_neg h1, if_neg h1]
      by_cases h2 : c6u f a
      . rw [if_pos h2, if_pos h2, if_neg (by decide), if_pos (by decide), a9f (by simp; omega), Option.bind_some, s2, Option.bind_some, <- hLP]
        obtain ⟨k, rfl⟩ : ∃ j, k = j + 1 := ⟨k - 1, by omega⟩
        rw [d28 k (a :: d) (x ++ [f]) (by simp; omega)]; simp
      . rw [if_neg h2, if_neg h2, if_neg (by decide), if_neg (by decide)]
        rw [d5c ha hf, Option.bind_some, a9f (by simp; omega), Option.bind_some, s1, Option.bind_some, s2, Option.bind_some, <- hLP]
        obtain ⟨k, rfl⟩ : ∃ j, k = j + 1 := ⟨k - 1, by omega⟩
        rw [d28 k d _ (by simp; omega)]; simp
def c1j (l : List api_Fact) : List api_Fact := (l.filter vld).foldl d07 []
theorem c4m : ∀ (l out : List api_Fact), (∀ u ∈ l, vld u = true) -> (∀ u ∈ out, vld u = true) -> out.Pairwise c6u -> (∀ u ∈ l.foldl d07 out, vld u = true) /\ (l.foldl d07 out).Pairwise c6u /\ (l.foldl d07 out).length <= out.length + l.length
  | [], out, _, h2, h3 => ⟨h2, h3, by simp⟩
  | f :: l, out, h1, h2, h3 => by
    have := c4m l (d07 out f) (fun u hu => h1 u (List.mem_cons_of_mem _ hu)) (fun u hu => (c7j hu).elim (h2 u) (fun e => e ▸ h1 f (List.mem_cons_self ..))) (d35 h3)
    have hl := d2r f out
    refine ⟨this.1, this.2.1, ?_⟩
    have := this.2.2
    simp only [List.foldl_cons, List.length_cons] at this ⊢; omega
theorem d0o (l : List api_Fact) : (∀ u ∈ c1j l, vld u = true) /\ (c1j l).Pairwise c6u /\ (c1j l).length <= l.length := by
  have := c4m (l.filter vld) [] (fun u hu => (List.mem_filter.1 hu).2) (fun u h => (by cases h)) .nil
  refine ⟨this.1, this.2.1, ?_⟩
  have h2 := List.length_filter_le vld l
  have := this.2.2
  simp only [List.length_nil] at this
  unfold c1j; omega
theorem e11 (l : List api_Fact) (y : api_Fact) : c1j (l ++ [y]) = if vld y = true then d07 (c1j l) y else c1j l := by
  unfold c1j
  rw [List.filter_append, List.foldl_append]
  cases h : vld y <;> simp [h]
theorem c1d (l : List api_Fact) (hl : l.length <= 2 ^ 20) : a5j l = some (c1j l) := by
  unfold a5j
  refine b61 (f := a56 l) l (fun s i => (s, i)) (fun s i => s = c1j (l.take i)) (fun o => o = some (c1j l)) (by omega) ?_ ?_ [] (by simp [c1j])
  . rintro rec s i y hi hy rfl
    right
    refine ⟨_, ?_, rfl⟩
    have ho := d0o (l.take i)
    rw [List.length_take] at ho
    unfold a56
    dsimp only
    rw [if_pos (by simp; omega), c37 hy, Option.bind_some, b6l, Option.bind_some, b94 (by omega), c6v hy, e11]
    cases hv : vld y with
    | false => rw [if_neg (by simp), if_neg (by simp)]
    | true =>
      rw [if_pos rfl, if_pos rfl]
      have hm : g9 (c1j (l.take i)) [y] = some (d07 (c1j (l.take i)) y) := by
        have := d7m hv (c1j (l.take i)) [] FU ho.1 (by simp; omega) (by unfold FU; omega)
        rw [List.nil_append] at this; exact this
      rw [hm, Option.bind_some]
  . rintro rec s rfl
    unfold a56
    dsimp only
    rw [if_neg (by simp), List.take_length]
theorem d4z (l : List api_Fact) (hl : l.length <= 2 ^ 20) : b0j l [] = some (c1j l) := by
  have ho := d0o l
  unfold b0j
  rw [c1d l hl, Option.bind_some, c1d [] (by simp), Option.bind_some]
  have hm : g9 (c1j l) (c1j []) = some (c1j l) := by
    have e : FU = 1180591620717411303423 + 1 := rfl
    have := d28 1180591620717411303423 (c1j l) [] (by simp; omega)
    rw [<- e] at this
    exact this
  rw [hm]; rfl
end Go.PL
namespace Go.PL
open Go Go.SX
theorem q_nn {a b : Int} (h0 : 0 <= a) (h1 : a <= 4611686018427387904) (hb : 0 < b) : b5i a b = some (a / b) := by
  obtain ⟨r, e, h, _⟩ := b8z h0 (by omega) hb
  rw [e, h]
theorem e8u {a b : Int} (h0 : 0 <= a) (hb : 0 < b) : b2j a b = some (a % b) := by
  obtain ⟨r, e, h, _⟩ := b36 h0 hb
  rw [e, h]
theorem b8o {n m : Int} (h0 : 0 < m) (h1 : m <= 4611686018427387904) : b6 n m = some (n % m) := by
  unfold b6
  rw [c02 (by omega), Option.bind_some]
  have h6 := Int.emod_nonneg n (by omega : m ≠ 0)
  have h7 := Int.emod_lt_of_pos n h0
  have h4 : n.tmod m = n % m \/ n.tmod m = n % m - m := by
    rw [Int.tmod_eq_emod]
    split
    . left; simp
    . right; omega
  by_cases h : n.tmod m < 0
  . rw [if_pos (by simpa using h), i8 (by omega) (by omega)]
    congr 1; omega
  . rw [if_neg (by simpa using h)]
    congr 1; omega
def e7i (y mo : Int) : Int := if mo = 2 then (if (y % 4 = 0 /\ y % 100 ≠ 0) \/ y % 400 = 0 then 29 else 28) else if mo = 4 \/ mo = 6 \/ mo = 9 \/ mo = 11 then 30 else 31
theorem d5e (y mo : Int) : 28 <= e7i y mo /\ e7i y mo <= 31 := by unfold e7i; split <;> split <;> omega
def b8c (m : Nat) : Int := e7i (1900 + ((m / 12 : Nat) : Int)) (((m % 12 : Nat) : Int) + 1)
def S : Nat -> Int
  | 0 => 0
  | m + 1 => S m + b8c m
theorem a74 (m : Nat) : 28 <= b8c m /\ b8c m <= 31 := d5e _ _
theorem f5q {a b : Nat} (h : a <= b) : S a + 28 * ((b : Int) - a) <= S b := by
  induction b with
  | zero => have : a = 0 := by omega
            subst this; simp
  | succ b ih =>
    by_cases hab : a <= b
    . have := ih hab; have := a74 b; simp only [S]; omega
    . have : a = b + 1 := by omega
      subst this; simp
theorem c8n {a b : Nat} (h : a <= b) : S a <= S b := by have := f5q h; omega
theorem S_lt {a b : Nat} (h : a < b) : S a < S b := by have := f5q (Nat.le_of_lt h); omega
theorem b4w : ∀ m : Nat, 0 <= S m /\ S m <= 31 * (m : Int)
  | 0 => by simp [S]
  | m + 1 => by have := b4w m; have := a74 m; simp only [S]; omega
theorem c2d {y mo : Int} (hy : 0 <= y /\ y <= 100000) (hm : 1 <= mo /\ mo <= 12) : y6 y mo = some (e7i y mo) := by
  unfold y6 b1i e7i
  simp only [e8u hy.1 (by decide : (0 : Int) < 4), e8u hy.1 (by decide : (0 : Int) < 100), e8u hy.1 (by decide : (0 : Int) < 400), Option.bind_some, a4o, a99]
  rw [i8 (by omega) (by omega)]
  by_cases h2 : mo = 2
  . subst h2
    simp only [beq_self_eq_true, if_true, Option.bind_some, Bool.true_and]
    by_cases hl : (y % 4 = 0 /\ y % 100 ≠ 0) \/ y % 400 = 0
    . rw [if_pos hl, if_pos (by simp; simpa using hl)]
    . rw [if_neg hl, if_neg (by simp; simpa using hl)]; rfl
  . have : (mo == 2) = false := by simpa using h2
    rw [this, Bool.false_and, if_neg (by simp), if_neg h2]
    have hc : mo = 1 \/ mo = 3 \/ mo = 4 \/ mo = 5 \/ mo = 6 \/ mo = 7 \/ mo = 8 \/ mo = 9 \/ mo = 10 \/ mo = 11 \/ mo = 12 := by omega
    rcases hc with h | h | h | h | h | h | h | h | h | h | h <;> subst h <;> rfl
theorem d4f {y mo : Int} (hy : 0 <= y /\ y <= 100000) (hm : 1 <= mo /\ mo <= 12) : a1s y mo = some (e7i y mo) := by
  unfold a1s b0r e7i
  simp only [e8u hy.1 (by decide : (0 : Int) < 4), e8u hy.1 (by decide : (0 : Int) < 100), e8u hy.1 (by decide : (0 : Int) < 400), Option.bind_some, a4o, a99]
  by_cases h2 : mo = 2
  . subst h2
    simp only [beq_self_eq_true, if_true]
    by_cases hl : (y % 4 = 0 /\ y % 100 ≠ 0) \/ y % 400 = 0
    . rw [if_pos hl, if_pos (by simp; omega)]
    . rw [if_neg hl, if_neg (by simp; omega)]
  . have : (mo == 2) = false := by simpa using h2
    simp only [this, Bool.false_eq_true, if_false, if_neg h2]
    have hc : mo = 1 \/ mo = 3 \/ mo = 4 \/ mo = 5 \/ mo = 6 \/ mo = 7 \/ mo = 8 \/ mo = 9 \/ mo = 10 \/ mo = 11 \/ mo = 12 := by omega
    rcases hc with h | h | h | h | h | h | h | h | h | h | h <;> subst h <;> rfl
theorem c34 (m : Nat) (hm : m <= 100000) : i64 (1900 + (m : Int) / 12) = 1900 + ((m / 12 : Nat) : Int) /\ i64 ((m : Int) % 12 + 1) = ((m % 12 : Nat) : Int) + 1 := by
  rw [i8 (by omega) (by omega), i8 (by omega) (by omega)]
  omega
theorem d3a (m : Nat) (hm : m <= 100000) : a1s (i64 (1900 + (m : Int) / 12)) (i64 ((m : Int) % 12 + 1)) = some (b8c m) := by
  obtain ⟨h1, h2⟩ := c34 m hm
  rw [h1, h2, d4f (by omega) (by omega)]; rfl
theorem qm (m : Nat) (hm : m <= 100000) : b5i (m : Int) 12 = some ((m : Int) / 12) := q_nn (by omega) (by omega) (by omega)
theorem rm (m : Nat) : b2j (m : Int) 12 = some ((m : Int) % 12) := e8u (by omega) (by omega)
theorem d8n (m : Nat) (hm : m <= 100000) : a3m (m : Int) = some (S m) := by
  unfold a3m
  obtain ⟨r, h1, h2⟩ := a9y (f := a7d (m : Int)) (fun s => ∃ x : Nat, s = (S x, (x : Int)) /\ x <= m) (fun s => m - s.2.toNat) (fun r => r = S m) (s := (0, 0)) ⟨0, rfl, Nat.zero_le _⟩ (by show m - _ < _; omega) (by
    rintro s rec ⟨x, rfl, hx⟩
    unfold a7d
    dsimp only
    by_cases h : x < m
    . right
      have hb := b4w x
      have hl := a74 x
      rw [if_pos (by simp; omega), qm x (by omega), Option.bind_some, rm, Option.bind_some, d3a x (by omega), Option.bind_some, i8 (n := S x + b8c x) (by omega) (by omega), i8 (n := (x : Int) + 1) (by omega) (by omega)]
      exact ⟨(S (x + 1), ((x + 1 : Nat) : Int)), by simp [S], ⟨x + 1, rfl, h⟩, by simp only [Int.toNat_natCast]; omega⟩
    . left
      have : x = m := by omega
      subst this
      rw [if_neg (by simp)]
      exact ⟨_, rfl, rfl⟩)
  rw [h1, h2]
theorem d3b : ∀ (n : Nat) {d : Int}, 0 <= d -> d < S n -> ∃ m : Nat, m < n /\ S m <= d /\ d < S (m + 1)
  | 0, d, h0, h1 => by simp [S] at h1; omega
  | n + 1, d, h0, h1 => by
    by_cases h : d < S n
    . obtain ⟨m, a, b, c⟩ := d3b n h0 h; exact ⟨m, by omega, b, c⟩
    . exact ⟨n, by omega, by omega, h1⟩
theorem d0t {d : Int} (h0 : 0 <= d) {m : Nat} (hm : m <= 2400) (h1 : S m <= d) (h2 : d < S (m + 1)) : a3t d = some ((m : Int), d - S m) := by
  unfold a3t
  have hbm := b4w (m + 1)
  obtain ⟨r, h3, h4⟩ := a9y (f := a5z) (fun s => ∃ x : Nat, s = (d - S x, (x : Int)) /\ x <= m) (fun s => m + 1 - s.2.toNat) (fun r => r = ((m : Int), d - S m)) (s := (d, 0)) ⟨0, by simp [S], Nat.zero_le _⟩ (by show m + 1 - _ < _; omega) (by
    rintro s rec ⟨x, rfl, hx⟩
    unfold a5z
    dsimp only
    have hb := b4w x
    have hl := a74 x
    rw [qm x (by omega), Option.bind_some, rm, Option.bind_some, d3a x (by omega), Option.bind_some]
    by_cases h : x < m
    . right
      have hS := c8n (show x + 1 <= m by omega)
      have e : S (x + 1) = S x + b8c x := rfl
      rw [if_neg (by simp; omega), i8 (n := d - S x - b8c x) (by omega) (by omega), i8 (n := (x : Int) + 1) (by omega) (by omega)]
      exact ⟨(d - S (x + 1), ((x + 1 : Nat) : Int)), by rw [e]; congr 1; rw [show d - S x - b8c x = d - (S x + b8c x) by omega]; simp, ⟨x + 1, rfl, h⟩, by simp only [Int.toNat_natCast]; omega⟩
    . left
      have : x = m := by omega
      subst this
      have e : S (x + 1) = S x + b8c x := rfl
      rw [if_pos (by simp; omega)]
      exact ⟨_, rfl, rfl⟩)
  rw [h3, h4]
def y12 (n : Nat) : Int := b8c (12 * n) + b8c (12 * n + 1) + b8c (12 * n + 2) + b8c (12 * n + 3) + b8c (12 * n + 4) + b8c (12 * n + 5) + b8c (12 * n + 6) + b8c (12 * n + 7) + b8c (12 * n + 8) + b8c (12 * n + 9) + b8c (12 * n + 10) + b8c (12 * n + 11)
theorem c2g (n : Nat) : S (12 * (n + 1)) = S (12 * n) + y12 n := by
  rw [show 12 * (n + 1) = 12 * n + 12 by omega]
  simp only [S, y12]
  omega
def f5p : Nat -> Nat -> Int -> Bool
  | 0, _, _ => true
  | k + 1, n, s => (a1j (1900 + (n : Int)) == some s) && (a3v (1900 + (n : Int)) == some (y12 n)) && f5p k (n + 1) (s + y12 n)
theorem d6u : ∀ (k n : Nat), f5p k n (S (12 * n)) = true -> ∀ j, n <= j -> j < n + k -> a1j (1900 + (j : Int)) = some (S (12 * j)) /\ a3v (1900 + (j : Int)) = some (y12 j)
  | 0, n, _, j, h1, h2 => by omega
  | k + 1, n, h, j, h1, h2 => by
    simp only [f5p, Bool.and_eq_true, beq_iff_eq] at h
    by_cases hj : j = n
    . subst hj; exact h.1
    . rw [<- c2g] at h
      exact d6u k (n + 1) h.2 j (by omega) (by omega)
theorem d4y : f5p 201 0 0 = true := by kernel_rfl
theorem c7f {n : Nat} (hn : n <= 200) : a1j (1900 + (n : Int)) = some (S (12 * n)) /\ a3v (1900 + (n : Int)) = some (y12 n) := d6u 201 0 d4y n (Nat.zero_le _) (by omega)
theorem e0h (n : Nat) : 336 <= y12 n /\ y12 n <= 372 := by
  have := f5q (show 12 * n <= 12 * (n + 1) by omega)
  have h := c2g n
  have e : ∀ k, b8c k <= 31 := fun k => (a74 k).2
  have := e (12 * n); have := e (12 * n + 1); have := e (12 * n + 2); have := e (12 * n + 3); have := e (12 * n + 4); have := e (12 * n + 5)
  have := e (12 * n + 6); have := e (12 * n + 7); have := e (12 * n + 8); have := e (12 * n + 9); have := e (12 * n + 10); have := e (12 * n + 11)
  unfold y12 at *
  omega
def sumY : Nat -> Int
  | 0 => 0
  | n + 1 => sumY n + y12 n
theorem e56 : ∀ n, S (12 * n) = sumY n
  | 0 => rfl
  | n + 1 => by rw [c2g, e56 n]; rfl
theorem d6k : S 2400 = 73049 := by
  have h := e56 200
  rw [show 12 * 200 = 2400 from rfl] at h
  exact h.trans (by kernel_rfl)
def e2u : Nat -> Nat -> Int -> Bool
  | 0, _, _ => true
  | k + 1, n, s => decide (s <= 366 * (n : Int)) && e2u k (n + 1) (s + y12 n)
theorem d2j : ∀ (k n : Nat), e2u k n (S (12 * n)) = true -> ∀ j, n <= j -> j < n + k -> S (12 * j) <= 366 * (j : Int)
  | 0, n, _, j, h1, h2 => by omega
  | k + 1, n, h, j, h1, h2 => by
    simp only [e2u, Bool.and_eq_true, decide_eq_true_eq] at h
    by_cases hj : j = n
    . subst hj; exact h.1
    . rw [<- c2g] at h
      exact d2j k (n + 1) h.2 j (by omega) (by omega)
theorem d0l : e2u 201 0 0 = true := by kernel_rfl
theorem f6m {n : Nat} (hn : n <= 200) : S (12 * n) <= 366 * (n : Int) := d2j 201 0 d0l n (Nat.zero_le _) (by omega)
theorem c7e {n k : Nat} (hn : n <= 1000) (hk : k < 12) : y6 (1900 + (n : Int)) ((k : Int) + 1) = some (b8c (12 * n + k)) := by
  rw [c2d (by omega) (by omega)]
  unfold b8c
  rw [show (12 * n + k) / 12 = n by omega, show (12 * n + k) % 12 = k by omega]
theorem f07 {n k : Nat} (hn : n < 200) (hk : k < 12) : a6j (1900 + (n : Int)) ((k : Int) + 1) 1 = some (S (12 * n + k), true) := by
  unfold a6j
  have hb := b4w (12 * n)
  have hl := a74 (12 * n + k)
  rw [c7e (by omega) hk, (c7f (n := n) (by omega)).1]
  have e1 : (((((decide (1900 + (n : Int) < 1900) || decide (1900 + (n : Int) > 2099)) || decide ((k : Int) + 1 < 1)) || decide ((k : Int) + 1 > 12)) || decide ((1 : Int) < 1)) || decide ((1 : Int) > b8c (12 * n + k))) = false := by
    simp only [Bool.or_eq_false_iff, decide_eq_false_iff_not]; omega
  simp only [Option.bind_some, a99, e1, Bool.false_eq_true, if_false]
  rw [i8 (n := S (12 * n) + 1) (by omega) (by omega), i8 (by omega) (by omega)]
  obtain ⟨r, h1, h2⟩ := a9y (f := b25 ((k : Int) + 1) (1900 + (n : Int))) (fun s => ∃ x : Nat, s = (S (12 * n + x), (x : Int) + 1) /\ x <= k) (fun s => k + 1 - s.2.toNat) (fun r => r = (S (12 * n + k), true)) (s := (S (12 * n) + 1 - 1, 1)) ⟨0, by simp, Nat.zero_le _⟩ (by show k + 1 - _ < _; omega) (by
    rintro s rec ⟨x, rfl, hx⟩
    unfold b25
    dsimp only
    by_cases h : x < k
    . right
      have hb := b4w (12 * n + x)
      have hl := a74 (12 * n + x)
      rw [if_pos (by simp; omega), c7e (by omega) (by omega), Option.bind_some, i8 (n := S (12 * n + x) + b8c (12 * n + x)) (by omega) (by omega), i8 (n := (x : Int) + 1 + 1) (by omega) (by omega)]
      exact ⟨(S (12 * n + (x + 1)), ((x + 1 : Nat) : Int) + 1), rfl, ⟨x + 1, rfl, h⟩, by simp only []; omega⟩
    . left
      have : x = k := by omega
      subst this
      rw [if_neg (by simp)]
      exact ⟨_, rfl, rfl⟩)
  rw [h1, h2]
theorem e21 {m : Nat} (hm : m < 2400) : a6j (1900 + ((m / 12 : Nat) : Int)) (((m % 12 : Nat) : Int) + 1) 1 = some (S m, true) := by
  have hd := f07 (n := m / 12) (k := m % 12) (by omega) (Nat.mod_lt _ (by omega))
  rwa [Nat.div_add_mod] at hd
theorem f6c {m : Nat} (hm : m < 2400) : a3s (m : Int) = some true := by
  unfold a3s
  have e1 : (decide ((m : Int) >= 0) && decide ((m : Int) <= 2399)) = true := by rw [Bool.and_eq_true]; exact ⟨decide_eq_true (by omega), decide_eq_true (by omega)⟩
  rw [a4o, e1]; rfl
theorem c43 {m : Nat} (hm : m < 2400) : a3u (m : Int) = some (S m, true) := by
  have hd := e21 hm
  obtain ⟨h1, h2⟩ := c34 m (by omega)
  rw [<- h1, <- h2] at hd
  unfold a3u
  rw [f6c hm, qm m (by omega), rm]
  show (a6j _ _ 1).bind _ = _
  rw [hd]; rfl
theorem e24 {d : Int} {m : Nat} (hm : m < 2400) (h1 : S m <= d) (h2 : d < S (m + 1)) : a8s d = some (1900 + ((m / 12 : Nat) : Int), ((m % 12 : Nat) : Int) + 1, d - S m + 1, true) := by
  have hS := c8n (show m + 1 <= 2400 by omega)
  have h24 := d6k
  have hb0 := b4w m
  have hv : (decide (d >= 0) && decide (d <= 73048)) = true := by rw [Bool.and_eq_true]; exact ⟨decide_eq_true (by omega), decide_eq_true (by omega)⟩
  unfold a8s a3h
  simp only [a4o, hv, Option.bind_some, Bool.not_true, Bool.false_eq_true, if_false]
  rw [q_nn (by omega) (by omega) (by omega), Option.bind_some, i8 (by omega) (by omega)]
  have hn0 : (d / 366).toNat <= 199 := by omega
  have hs0 := f6m (n := (d / 366).toNat) (by omega)
  obtain ⟨r, h3, h4⟩ := a9y (f := b0w d) (fun s => ∃ n : Nat, s = 1900 + (n : Int) /\ n <= 199 /\ S (12 * n) <= d) (fun s => 3000 - s.toNat) (fun r => r = (1900 + ((m / 12 : Nat) : Int), ((m % 12 : Nat) : Int) + 1, d - S m + 1, true)) (s := 1900 + d / 366) ⟨(d / 366).toNat, by omega, hn0, by omega⟩ (by show 3000 - _ < _; omega) (by
    rintro s rec ⟨n, rfl, hn, hsn⟩
    have hb := b4w (12 * n)
    have hy := e0h n
    unfold b0w
    rw [(c7f (n := n) (by omega)).1, (c7f (n := n) (by omega)).2]
    simp only [Option.bind_some]
    rw [i8 (n := S (12 * n) + y12 n) (by omega) (by omega)]
    by_cases h : S (12 * n) + y12 n <= d
    . right
      have hlt : n < 199 := by
        by_cases h9 : n = 199
        . subst h9
          have := c2g 199
          rw [show 12 * (199 + 1) = 2400 from rfl] at this
          omega
        . omega
      rw [if_pos (by simpa using h), i8 (n := 1900 + (n : Int) + 1) (by omega) (by omega)]
      have e4 : 1900 + (n : Int) + 1 = 1900 + ((n + 1 : Nat) : Int) := by omega
      rw [e4]
      exact ⟨_, rfl, ⟨n + 1, rfl, by omega, by rw [c2g]; exact h⟩, by omega⟩
    . left
      rw [if_neg (by simpa using h), i8 (n := d - S (12 * n)) (by omega) (by omega)]
      have hnm : m / 12 = n := by
        have h5 : 12 * n <= m := by
          rcases Nat.lt_or_ge m (12 * n) with h6 | h6
          . have := c8n (show m + 1 <= 12 * n by omega); omega
          . exact h6
        have h7 : m < 12 * (n + 1) := by
          rcases Nat.lt_or_ge m (12 * (n + 1)) with h6 | h6
          . exact h6
          . have := c8n h6; rw [c2g] at this; omega
        omega
      refine a9y (f := b0o (1900 + (n : Int))) (fun s => ∃ x : Nat, s = ((x : Int) + 1, d - S (12 * n + x)) /\ x <= m % 12) (fun s => 13 - s.1.toNat) _ ⟨0, rfl, Nat.zero_le _⟩ (by show 13 - _ < _; omega) ?_
      rintro s rec2 ⟨x, rfl, hx⟩
      unfold b0o
      dsimp only
      have hb2 := b4w (12 * n + x)
      have hl := a74 (12 * n + x)
      rw [c7e (by omega) (by omega)]
      simp only [Option.bind_some]
      have e : S (12 * n + x + 1) = S (12 * n + x) + b8c (12 * n + x) := rfl
      by_cases h8 : x < m % 12
      . right
        have := c8n (show 12 * n + x + 1 <= m by omega)
        rw [if_pos (by simp; omega), i8 (n := (x : Int) + 1 + 1) (by omega) (by omega), i8 (n := d - S (12 * n + x) - b8c (12 * n + x)) (by omega) (by omega)]
        have e3 : d - S (12 * n + x) - b8c (12 * n + x) = d - S (12 * n + x + 1) := by rw [e]; omega
        have e4 : (x : Int) + 1 + 1 = ((x + 1 : Nat) : Int) + 1 := by omega
        rw [e3, e4]
        exact ⟨_, rfl, ⟨x + 1, by rw [Nat.add_assoc], h8⟩, by simp only []; omega⟩
      . left
        have hxm : 12 * n + x = m := by omega
        have hx12 : m % 12 = x := by omega
        rw [hxm] at e hl hb2 ⊢
        rw [if_neg (by simp; omega), i8 (n := d - S m + 1) (by omega) (by omega)]
        exact ⟨_, rfl, by rw [hnm, hx12]⟩)
  rw [h3, h4]
theorem d7r {d : Int} {m : Nat} (hm : m < 2400) (h1 : S m <= d) (h2 : d < S (m + 1)) : a5o d = some (m : Int) := by
  unfold a5o
  rw [e24 hm h1 h2]
  simp only [Option.bind_some, Bool.not_true, Bool.false_eq_true, if_false]
  rw [i8 (n := 1900 + ((m / 12 : Nat) : Int) - 1900) (by omega) (by omega), i8 (n := 12 * (1900 + ((m / 12 : Nat) : Int) - 1900)) (by omega) (by omega), i8 (n := 12 * (1900 + ((m / 12 : Nat) : Int) - 1900) + (((m % 12 : Nat) : Int) + 1)) (by omega) (by omega), i8 (by omega) (by omega)]
  congr 1; omega
theorem c6p {d : Int} (hd : ¬ (0 <= d /\ d <= 73048)) : a5o d = some (-1) := by
  unfold a5o a8s a3h
  have e1 : (decide (d >= 0) && decide (d <= 73048)) = false := by
    rw [Bool.and_eq_false_iff, decide_eq_false_iff_not, decide_eq_false_iff_not]; omega
  simp only [a4o, e1, Option.bind_some, Bool.not_false, if_true]
end Go.PL
namespace Go.PL
open Go Go.SX
def e04 (d : Int) (r : Int × Bool) : Prop :=
  (r = (0, false) /\ (¬ (0 <= d /\ d <= 73048) \/ S 2399 < d)) \/ ∃ m : Nat, m < 2400 /\ r = ((m : Int), true) /\ 0 <= d /\ d <= 73048 /\ d <= S m /\ (m = 0 \/ S (m - 1) < d)
theorem c48 {m : Nat} (hm : m < 2400) : a42 (m : Int) = some (S m, true) := by
  unfold a42 a0w
  have e1 : (decide ((m : Int) >= 0) && decide ((m : Int) <= 2399)) = true := by rw [Bool.and_eq_true]; exact ⟨decide_eq_true (by omega), decide_eq_true (by omega)⟩
  rw [a4o, e1]
  show (a3m (m : Int)).bind _ = _
  rw [d8n m (by omega)]; rfl
theorem f1q (m : Int) : a0w m = some (decide (m >= 0) && decide (m <= 2399)) := by
  unfold a0w; rw [a4o]; rfl
theorem e7q (m : Int) : a1v m = some (decide (m >= 0) && decide (m <= 73048)) := by
  unfold a1v; rw [a4o]; rfl
theorem e00 {d : Int} {m : Nat} (hm : m < 2400) (h0 : 0 <= d) (hd : d <= 73048) (h1 : S m <= d) (h2 : d < S (m + 1)) : a4y d = some (m : Int) := by
  unfold a4y
  have hv : (decide (d >= 0) && decide (d <= 73048)) = true := by rw [Bool.and_eq_true]; exact ⟨decide_eq_true h0, decide_eq_true hd⟩
  rw [e7q, hv]
  show (a3t d).bind _ = _
  rw [d0t h0 (by omega) h1 h2]; rfl
theorem b8u (c : Claim) : ∃ r, a0l c = some r /\ a0u c = some r /\ e04 c.Day r := by
  by_cases hd : 0 <= c.Day /\ c.Day <= 73048
  . have h24 := d6k
    obtain ⟨m, hm, h1, h2⟩ := d3b 2400 hd.1 (by omega)
    have e1 : ¬ (decide ((m : Int) < 0)) = true := by simp
    unfold a0l a0u
    rw [d7r hm h1 h2, e00 hm hd.1 hd.2 h1 h2, Option.bind_some, Option.bind_some, if_neg e1, if_neg e1, c43 hm, c48 hm, Option.bind_some, Option.bind_some]
    dsimp only
    rw [b1g, b1g, b1g, b1g]
    unfold a9h a6k
    simp only [f1q, Option.bind_some]
    by_cases h3 : S m < c.Day
    . rw [if_pos (decide_eq_true h3), if_pos (decide_eq_true h3), i8 (n := (m : Int) + 1) (by omega) (by omega)]
      by_cases h4 : m = 2399
      . subst h4
        exact ⟨(0, false), rfl, rfl, .inl ⟨rfl, .inr h3⟩⟩
      . have e2 : decide ((m : Int) + 1 > 2399) = false := by rw [decide_eq_false_iff_not]; omega
        have e3 : (decide ((m : Int) + 1 >= 0) && decide ((m : Int) + 1 <= 2399)) = true := by rw [Bool.and_eq_true]; exact ⟨decide_eq_true (by omega), decide_eq_true (by omega)⟩
        simp only [e2, e3, Bool.not_true, Bool.false_eq_true, if_false]
        exact ⟨_, rfl, rfl, .inr ⟨m + 1, by omega, by simp, hd.1, hd.2, by omega, .inr (by simpa using h3)⟩⟩
    . have e9 : ¬ (decide (S m < c.Day)) = true := by simpa using h3
      rw [if_neg e9, if_neg e9]
      have e2 : decide ((m : Int) > 2399) = false := by rw [decide_eq_false_iff_not]; omega
      have hvm : (decide ((m : Int) >= 0) && decide ((m : Int) <= 2399)) = true := by rw [Bool.and_eq_true]; exact ⟨decide_eq_true (by omega), decide_eq_true (by omega)⟩
      simp only [e2, hvm, Bool.not_true, Bool.false_eq_true, if_false]
      refine ⟨_, rfl, rfl, .inr ⟨m, hm, rfl, hd.1, hd.2, by omega, ?_⟩⟩
      by_cases h0 : m = 0
      . exact .inl h0
      . right
        have := S_lt (show m - 1 < m by omega)
        omega
  . have hv : (decide (c.Day >= 0) && decide (c.Day <= 73048)) = false := by
      rw [Bool.and_eq_false_iff, decide_eq_false_iff_not, decide_eq_false_iff_not]; omega
    unfold a0l a0u a4y
    rw [c6p hd, e7q, hv]
    exact ⟨(0, false), rfl, rfl, .inl ⟨rfl, .inl hd⟩⟩
def a7u (c : Claim) : Prop := (0 <= c.Issuer /\ c.Issuer <= 5) /\ (1 <= c.Number /\ c.Number <= 999) /\ (1 <= c.Person /\ c.Person <= 99) /\
  (((c.Benefit = 3 \/ c.Benefit = 4) /\ 1 <= c.Ref /\ c.Ref <= 99 /\ c.Ref ≠ c.Person) \/ ((c.Benefit = 1 \/ c.Benefit = 2 \/ c.Benefit = 5) /\ c.Ref = 0))
instance (c : Claim) : Decidable (a7u c) := by unfold a7u; infer_instance
theorem c7u (c : Claim) : ∃ r, a0l c = some r /\ a2n c = some (decide (a7u c) && r.2) := by
  obtain ⟨r, h1, _, _⟩ := b8u c
  refine ⟨r, h1, ?_⟩
  unfold a2n
  simp only [b1g, a99, Option.bind_some]
  unfold a9e
  simp only [b1g, a99, Option.bind_some]
  unfold a6y
  simp only [b1g]
  unfold a9g
  rw [h1]
  simp only [Option.bind_some]
  by_cases a1 : 0 <= c.Issuer /\ c.Issuer <= 5 /\ 1 <= c.Number /\ c.Number <= 999 /\ 1 <= c.Person /\ c.Person <= 99
  . rw [if_neg (by simp; omega)]
    by_cases b : c.Benefit = 3 \/ c.Benefit = 4
    . by_cases a2 : 1 <= c.Ref /\ c.Ref <= 99 /\ c.Ref ≠ c.Person
      . have hok : a7u c := ⟨⟨a1.1, a1.2.1⟩, ⟨a1.2.2.1, a1.2.2.2.1⟩, ⟨a1.2.2.2.2.1, a1.2.2.2.2.2⟩, .inl ⟨b, a2⟩⟩
        have e2 : ((decide (c.Ref < 1) || decide (c.Ref > 99)) || (c.Ref == c.Person)) = false := by
          simp only [Bool.or_eq_false_iff, decide_eq_false_iff_not, beq_eq_false_iff_ne]; exact ⟨⟨by omega, by omega⟩, a2.2.2⟩
        rcases b with b | b <;> simp [b, e2, hok]
      . have hok : ¬ a7u c := by
          rintro ⟨_, _, _, h | h⟩
          . exact a2 h.2
          . omega
        have e2 : ((decide (c.Ref < 1) || decide (c.Ref > 99)) || (c.Ref == c.Person)) = true := by
          simp only [Bool.or_eq_true, decide_eq_true_eq, beq_iff_eq]; omega
        rcases b with b | b <;> simp [b, e2, hok]
    . have b3 : (c.Benefit == 3) = false := by simp; omega
      have b4 : (c.Benefit == 4) = false := by simp; omega
      simp only [b3, b4, Bool.false_eq_true, if_false]
      by_cases b' : c.Benefit = 1 \/ c.Benefit = 2 \/ c.Benefit = 5
      . by_cases a2 : c.Ref = 0
        . have hok : a7u c := ⟨⟨a1.1, a1.2.1⟩, ⟨a1.2.2.1, a1.2.2.2.1⟩, ⟨a1.2.2.2.2.1, a1.2.2.2.2.2⟩, .inr ⟨b', a2⟩⟩
          rcases b' with b' | b' | b' <;> simp [b', a2, hok]
        . have hok : ¬ a7u c := by
            rintro ⟨_, _, _, h | h⟩
            . omega
            . exact a2 h.2
          rcases b' with b' | b' | b' <;> simp [b', a2, hok]
      . have hok : ¬ a7u c := by rintro ⟨_, _, _, h | h⟩ <;> omega
        have b1 : (c.Benefit == 1) = false := by simp; omega
        have b2 : (c.Benefit == 2) = false := by simp; omega
        have b5 : (c.Benefit == 5) = false := by simp; omega
        simp [b1, b2, b5, hok]
  . have hok : ¬ a7u c := by rintro ⟨h1, h2, h3, _⟩; omega
    rw [if_pos (by simp; omega)]
    simp [hok]
theorem d96 (c : Claim) : ∃ r, a0u c = some r /\ a4a c = some (decide (a7u c) && r.2) := by
  obtain ⟨r, _, h1, _⟩ := b8u c
  refine ⟨r, h1, ?_⟩
  unfold a4a
  rw [h1]
  simp only [Option.bind_some, a99, a4o]
  by_cases hr : r.2 = true
  . rw [hr, Bool.and_true]
    by_cases a1 : 0 <= c.Issuer /\ c.Issuer <= 5 /\ 1 <= c.Number /\ c.Number <= 999 /\ 1 <= c.Person /\ c.Person <= 99 /\ 1 <= c.Benefit /\ c.Benefit <= 5
    . rw [if_neg (by simp; omega)]
      by_cases b : c.Benefit = 3 \/ c.Benefit = 4
      . rw [if_pos (by simpa using b)]
        congr 1
        rw [Bool.eq_iff_iff]
        simp only [Bool.and_eq_true, decide_eq_true_eq, bne_iff_ne]
        unfold a7u
        constructor
        . intro h; exact ⟨by omega, by omega, by omega, .inl ⟨b, h.1.1, h.1.2, h.2⟩⟩
        . rintro ⟨_, _, _, h | h⟩
          . exact ⟨⟨h.2.1, h.2.2.1⟩, h.2.2.2⟩
          . omega
      . rw [if_neg (by simpa using b)]
        congr 1
        rw [Bool.eq_iff_iff]
        simp only [beq_iff_eq, decide_eq_true_eq]
        unfold a7u
        constructor
        . intro h; exact ⟨by omega, by omega, by omega, .inr ⟨by omega, h⟩⟩
        . rintro ⟨_, _, _, h | h⟩
          . exact absurd h.1 b
          . exact h.2
    . have hok : ¬ a7u c := by rintro ⟨h1, h2, h3, h | h⟩ <;> omega
      rw [if_pos (by simp; omega), decide_eq_false hok]
  . have hr : r.2 = false := by simpa using hr
    rw [hr, Bool.and_false, if_pos (by simp)]
theorem c1z (c : Claim) : ∃ v, a2n c = some v /\ a4a c = some v := by
  obtain ⟨r, h1, h2⟩ := c7u c
  obtain ⟨r', h3, h4⟩ := d96 c
  obtain ⟨q, h5, h6, _⟩ := b8u c
  rw [h5] at h1; rw [h6] at h3
  cases h1; cases h3
  exact ⟨_, h2, h4⟩
def b22 (c : Claim) : Prop := a7u c /\ 35150 <= c.Day /\ c.Day <= 36049
theorem e5t : 73000 <= S 2399 := by
  have h := d6k
  have : S 2400 = S 2399 + b8c 2399 := rfl
  have := a74 2399
  omega
theorem e20 {c : Claim} (h : 0 <= c.Day /\ c.Day <= 72000) : ∃ m, a0l c = some (m, true) /\ 0 <= m /\ m <= 2399 := by
  obtain ⟨r, h1, _, h2⟩ := b8u c
  have h3 := e5t
  rcases h2 with ⟨_, h2 | h2⟩ | ⟨m, hm, h2, _⟩
  . omega
  . omega
  . subst h2; exact ⟨_, h1, by omega, by omega⟩
theorem c4f {c : Claim} (h : b22 c) : a2n c = some true := by
  obtain ⟨m, h1, _⟩ := e20 (c := c) (by have := h.2; omega)
  obtain ⟨r, h2, h3⟩ := c7u c
  rw [h1] at h2; cases h2
  rw [h3, decide_eq_true h.1]; rfl
theorem d7x (d : List pensionhand_Claim) : Tot (a61 d) fun r => r.length <= 6 /\ ∀ c ∈ r, b22 c := by
  have h3 : ∀ n, b6 n 3 = some (n % 3) := fun n => b8o (by decide) (by decide)
  have h9 : ∀ n, b6 n 9 = some (n % 9) := fun n => b8o (by decide) (by decide)
  have h4 : ∀ n, b6 n 4 = some (n % 4) := fun n => b8o (by decide) (by decide)
  have h5 : ∀ n, b6 n 5 = some (n % 5) := fun n => b8o (by decide) (by decide)
  have h900 : ∀ n, b6 n 900 = some (n % 900) := fun n => b8o (by decide) (by decide)
  unfold a61
  refine Tot.loop (I := fun v : List Claim × Int => 0 <= v.2 /\ v.2 <= 6 /\ (v.1.length : Int) = v.2 /\ ∀ c ∈ v.1, b22 c) (μ := fun v => (6 - v.2).toNat) ⟨Int.le_refl _, by show (0 : Int) <= 6; omega, rfl, by simp⟩ (by show (6 - 0 : Int).toNat < _; omega) ?_
  intro r v hI ih
  obtain ⟨g1, g2, g3, g4⟩ := hI
  unfold b05
  rw [a4o, Option.bind_some]
  refine Tot.ite (fun hc => ?_) fun _ => Tot.some ⟨by omega, g4⟩
  simp at hc
  have nx : ∀ (c : Claim), b22 c -> Tot (Option.bind (a8w 48 v.1 [c]) fun a => r (a, i64 (v.2 + 1))) fun r => r.length <= 6 /\ ∀ c ∈ r, b22 c := fun c hc => by
    refine Tot.bind (b6j (by simp; omega)) fun a ha => ?_
    subst ha
    rw [b48 g1 (by omega)]
    refine ih _ ⟨by show 0 <= v.2 + 1; omega, by show v.2 + 1 <= 6; omega, by simp; omega, fun x hx => ?_⟩ (by show (6 - (v.2 + 1)).toNat < (6 - v.2).toNat; omega)
    rcases List.mem_append.1 hx with hx | hx
    . exact g4 x hx
    . rw [List.mem_singleton.1 hx]; exact hc
  obtain ⟨y, hg, _⟩ := b2x g1 (show v.2 < (d.length : Int) by omega)
  simp only [hg, h3, h9, h4, h5, h900, a99, Option.bind_some]
  rw [i8 (n := 1 + y.Number % 9) (by omega) (by omega), i8 (n := 1 + y.Person % 4) (by omega) (by omega), i8 (n := 1 + y.Benefit % 5) (by omega) (by omega), i8 (n := 35150 + y.Day % 900) (by omega) (by omega),
    i8 (n := 1 + y.Ref % 4) (by omega) (by omega), i8 (n := 1 + (1 + y.Person % 4) % 4) (by omega) (by omega)]
  split
  . rename_i hb
    simp only [Bool.or_eq_true, beq_iff_eq] at hb
    split
    . exact nx _ ⟨⟨⟨by simp only []; omega, by simp only []; omega⟩, ⟨by simp only []; omega, by simp only []; omega⟩, ⟨by simp only []; omega, by simp only []; omega⟩, .inl ⟨hb, by simp only []; omega, by simp only []; omega, by simp only []; omega⟩⟩, by simp only []; omega, by simp only []; omega⟩
    . rename_i hr
      simp only [beq_iff_eq] at hr
      exact nx _ ⟨⟨⟨by simp only []; omega, by simp only []; omega⟩, ⟨by simp only []; omega, by simp only []; omega⟩, ⟨by simp only []; omega, by simp only []; omega⟩, .inl ⟨hb, by simp only []; omega, by simp only []; omega, hr⟩⟩, by simp only []; omega, by simp only []; omega⟩
  . rename_i hb
    simp only [Bool.or_eq_true, beq_iff_eq, not_or] at hb
    exact nx _ ⟨⟨⟨by simp only []; omega, by simp only []; omega⟩, ⟨by simp only []; omega, by simp only []; omega⟩, ⟨by simp only []; omega, by simp only []; omega⟩, .inr ⟨by simp only []; omega, rfl⟩⟩, by simp only []; omega, by simp only []; omega⟩
theorem f5a (n : Int) : Tot (a4r n) fun r => r.length = 6 /\ ∀ c ∈ r, b22 c := by
  unfold a4r
  rw [b8o (by decide) (by decide), Option.bind_some]
  have h : 0 <= n % 400 /\ n % 400 < 400 := by omega
  generalize n % 400 = z at h
  rw [i8 (n := 35150 + z) (by omega) (by omega)]
  refine Tot.some ⟨rfl, fun c hc => ?_⟩
  simp only [List.mem_cons, List.not_mem_nil, or_false] at hc
  rcases hc with rfl | rfl | rfl | rfl | rfl | rfl <;> exact ⟨by unfold a7u; simp, by simp only []; omega, by simp only []; omega⟩
end Go.PL
