/- Slices of the call's own that variables hold; what slices that are only read must not lie in; strings.Contains. It holds for every program. -/
import Derived.Shelf.Strings.Search3
import Derived.Lib.IndexAny
import Derived.Test.YtndkbfbjjnhgoaaGreatDoorView
set_option linter.unusedVariables false
namespace Go.PL
open Go Go.Proofs

/-- The block of a slice; the block of a variable; one of several. -/
def ownG (v : Value) (b : Nat) : Prop := v.ownBlock = some b
def boxG (b0 b : Nat) : Prop := b = b0
def gL : List (Nat → Prop) → Nat → Prop
  | [], _ => False
  | g :: r, b => g b ∨ gL r b
theorem RepSl.mv {α : Type} {R : TyR α} {G1 G2 Gm : Nat → Prop} {w w' : World} {v : Value} {l : List α} (h : RepSl R G1 w v l) (hE : Ext Gm w w') (hm : ∀ b, Gm b → G1 b ∨ w.heap.size ≤ b) (h2 : ∀ b, G2 b → G1 b ∨ w.heap.size ≤ b) : RepSl R G2 w' v l := by
  have h1 : RepSl R (fun b => G1 b ∨ w.heap.size ≤ b) w v l := h.weaken (fun b hb hg => hg.elim id (fun hh => absurd hb (Nat.not_lt.2 hh)))
  exact (h1.ext (hE.mono hm)).weaken (fun b _ hg => h2 b hg)
theorem Own.shp {α : Type} {B : Nat} {E : TypeId} {n : Nat} {cells : α → List Value} {w : World} {v : Value} {l : List α} (h : Own B E n cells w v l) : ∃ a n c, v = .slice a n c := by
  obtain ⟨a, c, hv, _⟩ := h.shape
  exact ⟨a, _, c, hv⟩
theorem addr0 (b : Nat) : (⟨b, 0, none⟩ : Addr) = (⟨b, 0, none⟩ : Addr).add 0 := by rw [Addr.add_lit]

section
variable {P : Program} {w : World} {G : Nat → Prop} {ρ : Nat → Value} {F : List Fact} {p : Plan} {i : Nat}
/-- A store into a variable, whole or in part, with whatever is known behind it. -/
theorem core_storeX {t : TypeId} {x y : Operand} {ty : TypeId} {ps : String} {af : Array Edge} {g : Option (Nat × Bool)} {dd b k : Nat} {T : TypeId} {a : Addr} {vs cs cs0 : List Value} {v : Value} {Φ : Value → World → Prop}
    (hF : F[i]? = some (dd, Φ)) (hm : p.mu.contains i = true) (hG : ∀ x, x = b → G x)
    (hx : ev ρ x = .pointer (some a)) (ha : a = (⟨b, 0, none⟩ : Addr).add k) (hy : ev ρ y = v) (hM : Mb w b T cs0)
    (hst : ∀ (a : Addr) (w : World), (Instr.storeAt t (.pointer (some a)) v).run P w = (storeCells a vs).run P w) (hk : k + vs.length ≤ cs0.length) (hcs : cs0.take k ++ vs ++ cs0.drop (k + vs.length) = cs) (h1 : ∀ u ∈ vs, u.oneCell' = true)
    (hΦ : ∀ w', Ext (fun x => x = b) w w' → Mb w' b T cs → Φ (ρ dd) w') :
    Yield P ⟨none, .store t x y, ty, ps, af, g⟩ (ev ρ) w fun v w' => Ext (if p.mu.contains i then G else noG) w w' ∧ fact F i (putO ρ none v) w' := by
  obtain ⟨w', hr, hM', hE⟩ := run_storeCells (P := P) vs k cs0 w hM hk h1
  have hrun : (execOp (ev ρ) ⟨none, .store t x y, ty, ps, af, g⟩).run P w = .ok .skip w' := by
    have h2 := run_storeCells_add (P := P) (w := w) (a := (⟨b, 0, none⟩ : Addr)) vs k 0
    simp only [Nat.add_zero] at h2
    simp [execOp, hx, hy, hst, ha, h2, hr]
  unfold Yield
  rw [hrun, hm, if_pos rfl]
  refine ⟨hE.mono hG, ?_⟩
  unfold fact
  rw [hF]
  rw [hcs] at hM'
  exact hΦ w' hE hM'
theorem core_appendX {α : Type} {B : Nat} {t ty E : TypeId} {n bytes : Nat} {cells : α → List Value} {s x : Operand} {v xv : Value} {l xs r : List α} {ps : String} {af : Array Edge} {g : Option (Nat × Bool)} {dd : Tmp} {w0 : World}
    {Φ : Value → World → Prop} (hF : F[i]? = some (dd, Φ)) (hm : p.mu.contains i = true) (hG : ∀ b, v.ownBlock = some b → G b) (hs : ev ρ s = v) (hxv : ev ρ x = xv)
    (hn : ∀ x, (cells x).length = n) (h1 : ∀ x, ∀ u ∈ cells x, u.oneCell' = true)
    (ht : P.underlying t = some (.slice E)) (hi : (P.info? E).map (fun i => (i.zero.map (·.cells.size), i.size, i.bytes)) = some (some n, n, bytes)) (hpos : 0 < n) (hbpos : 0 < bytes)
    (hown : Own B E n cells w v l) (hx : ∃ G, RepSl (TyR.flat n cells hn) G w xv xs) (hb : appI bytes l xs = some r) (hB : B ≤ w.heap.size) (hw0 : w0.heap.size ≤ w.heap.size)
    (hΦ : ∀ v' w', Ext (fun b => v.ownBlock = some b) w w' → Own B E n cells w' v' r → (∀ b, v'.ownBlock = some b → v.ownBlock = some b ∨ w0.heap.size ≤ b) → Φ v' w') :
    Yield P ⟨some dd, .call ⟨.builtin .append, #[s, x], #[t, t]⟩, ty, ps, af, g⟩ (ev ρ) w fun v w' => Ext (if p.mu.contains i then G else noG) w w' ∧ fact F i (putO ρ (some dd) v) w' := by
  obtain ⟨hbb, hrr⟩ := appI_some hb
  obtain ⟨v', w', hr, ho, hE, hfr⟩ := run_append (P := P) (ty := ty) hn h1 ht hi hpos hbpos hown hx hbb hB
  have hrun : (execOp (ev ρ) ⟨some dd, .call ⟨.builtin .append, #[s, x], #[t, t]⟩, ty, ps, af, g⟩).run P w = .ok (.value v') w' := by
    simp [execOp, resolve, invoke, builtin, hs, hxv, hr]
  unfold Yield
  rw [hrun, hm, if_pos rfl]
  refine ⟨hE.mono hG, ?_⟩
  unfold fact
  rw [hF]
  show Φ (upd ρ dd v' dd) w'
  rw [upd_same]
  refine hΦ v' w' hE (hrr ▸ ho) (fun b hb => ?_)
  rcases hfr b hb with h2 | h2
  · exact .inl h2
  · exact .inr (Nat.le_trans hw0 h2)
/-- A call with whatever it may change and whatever is known behind it. -/
theorem core_callX {f : FuncId} {xs : Array Operand} {tys : Array TypeId} {ty : TypeId} {ps : String} {af : Array Edge} {g : Option (Nat × Bool)} {dd : Tmp} {args : Array Value} {Φ : Value → World → Prop} {Gc : Nat → Prop}
    (hF : F[i]? = some (dd, Φ)) (hm : p.mu.contains i = true) (hG : ∀ b, Gc b → G b) (hargs : xs.map (ev ρ) = args) (hcf : ∀ (args : Array Value) (w : World), (callFunc f args).run P w = .ok (.enter f args) w)
    (hc : Calls P f args w fun e w' => ∃ v, e = .returned v ∧ Ext Gc w w' ∧ Φ v w') :
    Yield P ⟨some dd, .call ⟨.value (.func f), xs, tys⟩, ty, ps, af, g⟩ (ev ρ) w fun v w' => Ext (if p.mu.contains i then G else noG) w w' ∧ fact F i (putO ρ (some dd) v) w' := by
  have hr : (execOp (ev ρ) ⟨some dd, .call ⟨.value (.func f), xs, tys⟩, ty, ps, af, g⟩).run P w = .ok (.enter f args) w := by
    simp [execOp, resolve, ev, Deferred.ofValue, invoke, hargs, hcf]
  unfold Yield
  rw [hr, hm, if_pos rfl]
  refine hc.mono (fun e w' ⟨v, he, hE, hΦ⟩ => ⟨v, he, hE.mono hG, ?_⟩)
  unfold fact
  rw [hF]
  show Φ (upd ρ dd v dd) w'
  rw [upd_same]
  exact hΦ
end

/-! ### slices of slices -/
def slR {α : Type} (R : TyR α) : TyR (List α) where
  n := 1
  rep := fun G w cs l => ∃ v, cs = [v] ∧ RepSl R G w v l
  len := fun ⟨_, h, _⟩ => by rw [h]; rfl
  ext := fun ⟨v, h, hr⟩ hE => ⟨v, h, hr.ext hE⟩
  weaken := fun ⟨v, h, hr⟩ hG => ⟨v, h, hr.weaken hG⟩
theorem RepSl.getS {α : Type} {R : TyR α} {G : Nat → Prop} {w : World} {v : Value} {l : List (List α)} (h : RepSl (slR R) G w v l) {i : Int} {x : List α} (hx : getI l i = some x) :
    ∃ a cap u, v = .slice (some a) l.length cap ∧ (0 ≤ i ∧ i < (l.length : Int)) ∧ At w (a.add (i.toNat * 1)) [u] ∧ RepSl R G w u x := by
  obtain ⟨a, cap, cs, hv, hi, hr, hb, _, hca⟩ := h.get hx
  obtain ⟨u, rfl, hru⟩ := hr
  exact ⟨a, cap, u, hv, hi, ⟨by rw [add_block]; exact hb, hca⟩, hru⟩
theorem Mb.rep2 {α : Type} {R : TyR α} {G : Nat → Prop} {w : World} {b : Nat} {E : TypeId} {v1 v2 : Value} {l1 l2 : List α} (h : Mb w b E [v1, v2]) (h1 : RepSl R G w v1 l1) (h2 : RepSl R G w v2 l2) (hG : ¬ G b) :
    RepSl (slR R) G w (.slice (some ⟨b, 0, none⟩) 2 2) [l1, l2] := by
  refine .inr ⟨⟨b, 0, none⟩, 2, rfl, Nat.le_refl _, by simp [maxLen], fun i x hx => ?_⟩
  have hca : CA w ⟨b, 0, none⟩ [v1, v2] := h.ca
  match i, hx with
  | 0, hx =>
    obtain rfl := Option.some.inj hx
    refine ⟨[v1], ⟨v1, rfl, h1⟩, h.lt, hG, fun j u hj => ?_⟩
    cases j with
    | zero => have := hca 0 u hj; rwa [Addr.add_lit, Addr.add_lit] at *
    | succ j => simp at hj
  | 1, hx =>
    obtain rfl := Option.some.inj hx
    refine ⟨[v2], ⟨v2, rfl, h2⟩, h.lt, hG, fun j u hj => ?_⟩
    cases j with
    | zero => have := hca 1 u hj; rwa [Addr.add_lit, Addr.add_lit] at *
    | succ j => simp at hj
  | (k + 2), hx => simp at hx

/-! ### an interface that holds a slice -/
theorem o_iface {P : Program} {η : Operand → Value} {w : World} {T : TypeId} {x : Operand} {v u : Value} {dst : Option Tmp} {ty : TypeId} {ps : String} {af : Array Edge} {g : Option (Nat × Bool)} (hx : η x = v) (h : (Instr.makeInterface T v).run P w = .ok u w) : YV P η w ⟨dst, .makeInterface T x, ty, ps, af, g⟩ u := by
  simp [YV, execOp, hx, h]

/-! ### strings.Contains at one byte -/
def containsF (s sub : ByteArray) : Option Bool := match sub.data.toList with
  | [c] => some (s.data.toList.contains c)
  | _ => none
theorem contains_calls {P : Program} {ρ : Go.Shelf.Ren} (L : Lays.n144 P ρ) {s sub : ByteArray} {r : Bool} (hF : containsF s sub = some r) (w0 : World) :
    Calls P (ρ.f 144) #[.string s, .string sub] w0 fun e w1 => e = .returned (.bool r) ∧ Ext noG w0 w1 := by
  unfold containsF at hF
  split at hF
  · rename_i c hc
    obtain rfl := Option.some.inj hF
    have hsub : sub = ⟨#[c]⟩ := by
      cases sub with
      | mk d =>
        congr 1
        exact Array.toList_inj.1 hc
    subst hsub
    refine (Any.strings_Contains_one L s c w0).mono ?_
    rintro e w1 ⟨rfl, rfl⟩
    exact ⟨by rw [Lib.contains_iff_indexByte], Ext.refl _ _⟩
  · cases hF
/-- A change in a block that a parameter brought, or that is new. -/
theorem Ext.par {G G0 : Nat → Prop} {w0 w w' : World} (h : Ext G0 w0 w) (hE : Ext G w w') (hG : ∀ x, G x → G0 x ∨ w0.heap.size ≤ x) : Ext G0 w0 w' :=
  ⟨hE.os.trans h.os, hE.tape.trans h.tape, hE.output.trans h.output, Nat.le_trans h.size hE.size,
    fun b hb hn => (hE.block b (Nat.lt_of_lt_of_le hb h.size) (fun hg => (hG b hg).elim hn (fun h2 => by omega))).trans (h.block b hb hn), Nat.le_trans h.drawn hE.drawn⟩
theorem nilblock {b : Nat} {q : Prop} (h : Value.ownBlock (.slice none 0 0) = some b) : q := by simp [Value.ownBlock] at h
end Go.PL
