/- Bits, comparisons of structs, function values, globals, several new variables, stores into a slice of the call's own: for the program logic of Core. It holds for every program. -/
import Derived.Test.YtndkbfbjjnhgoaaGreatDoorOwn
import Derived.Laws.StructEq
namespace Go.PL
open Go

/-! ### bits -/
def andK (k : IntKind) (a b : Int) : Int := k.wrap (BitVec.ofInt k.bits a &&& BitVec.ofInt k.bits b).toNat
def orK (k : IntKind) (a b : Int) : Int := k.wrap (BitVec.ofInt k.bits a ||| BitVec.ofInt k.bits b).toNat
def xorK (k : IntKind) (a b : Int) : Int := k.wrap (BitVec.ofInt k.bits a ^^^ BitVec.ofInt k.bits b).toNat
def shlK (k : IntKind) (a b : Int) : Int := k.wrap (a * 2 ^ (min b.toNat k.bits))
def shrK (k : IntKind) (a b : Int) : Int := a.fdiv (2 ^ (min b.toNat k.bits))
def shlO (k : IntKind) (a b : Int) : Option Int := if b < 0 then none else some (shlK k a b)
def shrO (k : IntKind) (a b : Int) : Option Int := if b < 0 then none else some (shrK k a b)
theorem shlO_some {k : IntKind} {a b c : Int} (h : shlO k a b = some c) : ¬ b < 0 ∧ shlK k a b = c := by
  unfold shlO at h; split at h
  · cases h
  · exact ⟨by assumption, Option.some.inj h⟩
theorem shrO_some {k : IntKind} {a b c : Int} (h : shrO k a b = some c) : ¬ b < 0 ∧ shrK k a b = c := by
  unfold shrO at h; split at h
  · cases h
  · exact ⟨by assumption, Option.some.inj h⟩
/-- s[i], where it is. -/
def strI (s : ByteArray) (i : Int) : Option Int := if 0 ≤ i then (s[i.toNat]?).map (fun b => (b.toNat : Int)) else none
section
variable {P : Program} {η : Operand → Value} {w : World} {d : Option Tmp} {ty : TypeId} {ps : String} {af : Array Edge} {g : Option (Nat × Bool)} {x y z : Operand} {v u : Value} {t t' : TypeId} {k k2 : IntKind} {a b c : Int} {q : Bool}
theorem o_and (hx : η x = .int k a) (hy : η y = .int k b) (h : andK k a b = c) : YV P η w ⟨d, .binOp .and t x y t', ty, ps, af, g⟩ (.int k c) := by
  subst h; simp [YV, execOp, hx, hy, eqGuard, binOp, Op.intBits, andK]
theorem o_or (hx : η x = .int k a) (hy : η y = .int k b) (h : orK k a b = c) : YV P η w ⟨d, .binOp .or t x y t', ty, ps, af, g⟩ (.int k c) := by
  subst h; simp [YV, execOp, hx, hy, eqGuard, binOp, Op.intBits, orK]
theorem o_xor (hx : η x = .int k a) (hy : η y = .int k b) (h : xorK k a b = c) : YV P η w ⟨d, .binOp .xor t x y t', ty, ps, af, g⟩ (.int k c) := by
  subst h; simp [YV, execOp, hx, hy, eqGuard, binOp, Op.intBits, xorK]
theorem o_shl (hx : η x = .int k a) (hy : η y = .int k2 b) (h0 : ¬ b < 0) (h : shlK k a b = c) : YV P η w ⟨d, .binOp .shl t x y t', ty, ps, af, g⟩ (.int k c) := by
  subst h; simp [YV, execOp, hx, hy, eqGuard, binOp, Op.shift, h0, shlK]
theorem o_shr (hx : η x = .int k a) (hy : η y = .int k2 b) (h0 : ¬ b < 0) (h : shrK k a b = c) : YV P η w ⟨d, .binOp .shr t x y t', ty, ps, af, g⟩ (.int k c) := by
  subst h; simp [YV, execOp, hx, hy, eqGuard, binOp, Op.shift, h0, shrK]
theorem o_index {s : ByteArray} (hx : η x = .string s) (hy : η y = .int k2 b) (ht : P.underlying t = some .string) (h : strI s b = some c) : YV P η w ⟨d, .index t x y, ty, ps, af, g⟩ (.int .u8 c) := by
  unfold strI at h
  split at h
  · rename_i h0
    obtain ⟨r, hr, hrc⟩ := Option.map_eq_some_iff.1 h
    subst hrc
    simp [YV, execOp, hx, hy, Instr.index, asIntOf, run_underlying ht, h0, hr]
  · cases h
theorem o_eqS {xs ys : Array Value} {r : Bool} (hx : η x = .agg xs) (hy : η y = .agg ys) (hm : P.eqGuardType P.depth t = false) (h : (Op.equalIn 10000 t (.agg xs) (.agg ys)).run P w = .ok r w) (hq : r = q) :
    YV P η w ⟨d, .binOp .eql t x y t', ty, ps, af, g⟩ (.bool q) := by
  subst hq
  simp only [YV, execOp, hx, hy, Sem.run_bind, run_eqGuard_agg w .eql t x y xs ys hm, Result.andThen_ok, run_eql_struct w t xs ys, h, Sem.run_pure]
theorem o_neS {xs ys : Array Value} {r : Bool} (hx : η x = .agg xs) (hy : η y = .agg ys) (hm : P.eqGuardType P.depth t = false) (h : (Op.equalIn 10000 t (.agg xs) (.agg ys)).run P w = .ok r w) (hq : (!r) = q) :
    YV P η w ⟨d, .binOp .neq t x y t', ty, ps, af, g⟩ (.bool q) := by
  subst hq
  simp only [YV, execOp, hx, hy, Sem.run_bind, run_eqGuard_agg w .neq t x y xs ys hm, Result.andThen_ok, run_neq_struct w t xs ys, h, Sem.run_pure]
theorem o_eqlB {p r : Bool} (hx : η x = .bool p) (hy : η y = .bool r) (ht : P.underlying t = some .bool) (h : (p == r) = q) : YV P η w ⟨d, .binOp .eql t x y t', ty, ps, af, g⟩ (.bool q) := by
  subst h; simp [YV, execOp, hx, hy, eqGuard, binOp, run_equal_bool w t p r ht]
theorem o_neqB {p r : Bool} (hx : η x = .bool p) (hy : η y = .bool r) (ht : P.underlying t = some .bool) (h : (p != r) = q) : YV P η w ⟨d, .binOp .neq t x y t', ty, ps, af, g⟩ (.bool q) := by
  subst h; simp [YV, execOp, hx, hy, eqGuard, binOp, run_equal_bool w t p r ht]; cases p <;> cases r <;> rfl
theorem o_makeFunc {fn : Fn} {cap : Array Operand} {cs : Array Value} (h : cap.map η = cs) : YV P η w ⟨d, .makeFunc fn #[] cap, ty, ps, af, g⟩ (.func fn #[] cs) := by
  subst h; simp [YV, execOp, Instr.makeFunc]
end

/-! ### comparison of structs -/
theorem eqF_nil {P : Program} {w : World} {d : Nat} {xs ys : Array Value} {l : List Field} (hl : l.isEmpty = true) : (Op.eqFields d xs ys l).run P w = .ok true w := by
  rw [List.isEmpty_iff.1 hl]; simp [Op.eqFields]
theorem eqF_cons {P : Program} {w : World} {d off : Nat} {t : TypeId} {xs ys : Array Value} {l : List Field} {a b : Value} {r s : Bool}
    (hl : l.head?.map (fun f => (f.name != "_", f.type, f.offset)) = some (true, t, off)) (h1 : (part t xs off).run P w = .ok a w) (h2 : (part t ys off).run P w = .ok b w)
    (h3 : (Op.equalIn d t a b).run P w = .ok r w) (h4 : (Op.eqFields d xs ys l.tail).run P w = .ok s w) : (Op.eqFields d xs ys l).run P w = .ok (r && s) w := by
  cases l with
  | nil => simp at hl
  | cons f fs =>
    simp only [List.head?_cons, Option.map_some, Option.some.injEq, Prod.mk.injEq, bne_iff_ne, ne_eq] at hl
    obtain ⟨hn, rfl, rfl⟩ := hl
    simp only [List.tail_cons] at h4
    rw [Op.eqFields]
    simp only [Sem.run_ite, ne_eq, hn, not_false_eq_true, if_true, Sem.run_bind, h1, h2, h3, Result.andThen_ok]
    cases r
    · simp
    · simp [h4]

/-! ### readings -/
/-- The function value v, where nothing outside G changes, computes p; it changes nothing that is there. -/
def FnR {α β : Type} (P : Program) (V : α → List Value) (W : β → Value) (p : α → Option β) (G : Nat → Prop) (w : World) (v : Value) : Prop :=
  ∃ f cap, v = .func (.func f) #[] cap.toArray ∧ (∀ (args : Array Value) (w : World), (callFunc f args).run P w = .ok (.enter f args) w) ∧
    ∀ w', Ext G w w' → ∀ x r, p x = some r → Calls P f (V x ++ cap).toArray w' fun e w1 => e = .returned (W r) ∧ Ext noG w' w1
section
variable {α β : Type} {P : Program} {V : α → List Value} {W : β → Value} {p : α → Option β} {G G' : Nat → Prop} {w w' w0 : World} {v u u' : Value}
theorem FnR.ext (h : FnR P V W p G w v) (hE : Ext G w w') : FnR P V W p G w' v := by
  obtain ⟨f, cap, h1, h2, h3⟩ := h
  exact ⟨f, cap, h1, h2, fun w2 hE2 => h3 w2 (hE.trans hE2)⟩
theorem FnR.exn (h : FnR P V W p G w v) (hE : Ext noG w w') : FnR P V W p G w' v := h.ext hE.of_no
theorem FnR.weaken (h : FnR P V W p G w v) (hG : ∀ b, b < w.heap.size → G' b → G b) : FnR P V W p G' w v := by
  obtain ⟨f, cap, h1, h2, h3⟩ := h
  exact ⟨f, cap, h1, h2, fun w2 hE2 => h3 w2 ⟨hE2.os, hE2.tape, hE2.output, hE2.size, fun b hb hn => hE2.block b hb (fun hg => hn (hG b hb hg)), hE2.drawn⟩⟩
theorem FnR.start (h : FnR P V W p G w v) : FnR P V W p (gfr G w) w v := h.weaken (fun _ hb hg => hg.elim id (fun hh => absurd hb (Nat.not_lt.2 hh)))
theorem FnR.over (h : FnR P V W p (gfr G w0) w v) (hE : Ext G' w w') (hG : ∀ b, G' b → w0.heap.size ≤ b) : FnR P V W p (gfr G w0) w' v := h.ext (hE.mono fun b hb => .inr (hG b hb))
theorem FnR.no (h : FnR P V W p G w v) : FnR P V W p noG w v := h.weaken (fun _ _ h => h.elim)
theorem FnR.shape (h : FnR P V W p G w v) : ∃ f a c, v = .func f a c := by
  obtain ⟨f, cap, h1, _⟩ := h
  exact ⟨_, _, _, h1⟩
theorem FnR.mk {f : FuncId} {cap : List Value} (h2 : ∀ (args : Array Value) (w : World), (callFunc f args).run P w = .ok (.enter f args) w)
    (h3 : ∀ w', Ext G w w' → ∀ x r, p x = some r → Calls P f (V x ++ cap).toArray w' fun e w1 => e = .returned (W r) ∧ Ext noG w' w1) : FnR P V W p G w (.func (.func f) #[] cap.toArray) := ⟨f, cap, rfl, h2, h3⟩
end
/-- The global b holds cs. -/
def GR (cs : List Value) (G : Nat → Prop) (w : World) (b : Nat) : Prop := b < w.heap.size ∧ ¬ G b ∧ CA w ⟨b, 0, none⟩ cs
section
variable {cs : List Value} {G G' : Nat → Prop} {w w' w0 : World} {b : Nat}
theorem GR.ext (h : GR cs G w b) (hE : Ext G w w') : GR cs G w' b := ⟨Nat.lt_of_lt_of_le h.1 hE.size, h.2.1, h.2.2.of_block (hE.block _ h.1 h.2.1)⟩
theorem GR.exn (h : GR cs G w b) (hE : Ext noG w w') : GR cs G w' b := h.ext hE.of_no
theorem GR.weaken (h : GR cs G w b) (hG : ∀ b, b < w.heap.size → G' b → G b) : GR cs G' w b := ⟨h.1, fun hg => h.2.1 (hG _ h.1 hg), h.2.2⟩
theorem GR.start (h : GR cs G w b) : GR cs (gfr G w) w b := h.weaken (fun _ hb hg => hg.elim id (fun hh => absurd hb (Nat.not_lt.2 hh)))
theorem GR.over (h : GR cs (gfr G w0) w b) (hE : Ext G' w w') (hG : ∀ b, G' b → w0.heap.size ≤ b) : GR cs (gfr G w0) w' b := h.ext (hE.mono fun b hb => .inr (hG b hb))
theorem GR.no (h : GR cs G w b) : GR cs noG w b := h.weaken (fun _ _ h => h.elim)
theorem GR.ca (h : GR cs G w b) : CA w ⟨b, 0, none⟩ cs := h.2.2
end

section
variable {P : Program} {w : World} {G : Nat → Prop} {ρ : Nat → Value} {F : List Fact} {p : Plan} {i : Nat}
/-- A call of a function value whose function is known. -/
theorem core_callF {α β : Type} {V : α → List Value} {W : β → Value} {q : α → Option β} {G' : Nat → Prop} {fo : Operand} {xs : Array Operand} {tys : Array TypeId} {ty : TypeId} {ps : String} {af : Array Edge} {g : Option (Nat × Bool)} {dd : Tmp} {v : Value} {a : α} {r : β}
    (hF : F[i]? = some (val dd (W r))) (hf : ev ρ fo = v) (hargs : xs.map (ev ρ) = (V a).toArray) (hR : FnR P V W q G' w v) (hq : q a = some r) :
    Yield P ⟨some dd, .call ⟨.value fo, xs, tys⟩, ty, ps, af, g⟩ (ev ρ) w fun v w' => Ext (if p.mu.contains i then G else noG) w w' ∧ fact F i (putO ρ (some dd) v) w' := by
  obtain ⟨f, cap, hv, hcf, hc⟩ := hR
  have hr : (execOp (ev ρ) ⟨some dd, .call ⟨.value fo, xs, tys⟩, ty, ps, af, g⟩).run P w = .ok (.enter f (V a ++ cap).toArray) w := by
    simp [execOp, resolve, Deferred.ofValue, invoke, hf, hv, hargs, hcf]
  unfold Yield
  rw [hr]
  refine (hc w (Ext.refl _ _) a r hq).mono (fun e w' ⟨he, hE⟩ => ⟨_, he, ?_, ?_⟩)
  · split
    · exact hE.of_no
    · exact hE
  · unfold fact
    rw [hF]
    exact upd_same _ _ _
/-- A variable made in a region that makes several. -/
theorem core_newN {o : Oper} {dd : Tmp} {T : TypeId} {cs : List Value} {w0 : World} (hg : o.guard = none) (hd : o.dst = some dd) (hF : F[i]? = some (dd, fun u w' => ∃ b, u = .pointer (some ⟨b, 0, none⟩) ∧ w0.heap.size ≤ b ∧ Mb w' b T cs))
    (h0 : Ext G w0 w) (h : (execOp (ev ρ) o).run P w = .ok (.value (.pointer (some ⟨w.heap.size, 0, none⟩))) (w.alloc (.cells cs.toArray T))) :
    o.guard = none ∧ Yield P o (ev ρ) w fun v w' => (∀ b, hdV v = some b → w.heap.size ≤ b ∧ b < w'.heap.size) ∧ Ext noG w w' ∧ fact F i (putO ρ o.dst v) w' := by
  refine ⟨hg, ?_⟩
  unfold Yield
  rw [h]
  refine ⟨?_, Ext.alloc _ _ _, ?_⟩
  · intro b hb
    obtain rfl := Option.some.inj hb
    refine ⟨Nat.le_refl _, ?_⟩
    show w.heap.size < (w.heap.push _).size
    simp
  unfold fact
  rw [hF, hd]
  exact ⟨_, upd_same _ _ _, h0.size, Mb.alloc w T cs⟩
/-- A store into one of several variables that the region itself has made. -/
theorem core_storeNewN {t : TypeId} {x y : Operand} {ty : TypeId} {ps : String} {af : Array Edge} {dd : Tmp} {T : TypeId} {cs cs0 : List Value} {v : Value} {w0 : World}
    (hF : F[i]? = some (dd, fun u w' => ∃ b, u = .pointer (some ⟨b, 0, none⟩) ∧ w0.heap.size ≤ b ∧ Mb w' b T cs))
    (hx : ev ρ x = ρ dd) (hy : ev ρ y = v) (ha : ∃ b, ρ dd = .pointer (some ⟨b, 0, none⟩) ∧ w0.heap.size ≤ b ∧ Mb w b T cs0)
    (hst : ∀ (a : Addr) (w : World), (Instr.storeAt t (.pointer (some a)) v).run P w = (storeCells a cs).run P w) (hl : cs.length = cs0.length) (h1 : ∀ u ∈ cs, u.oneCell' = true) :
    (⟨none, .store t x y, ty, ps, af, none⟩ : Oper).guard = none ∧ Yield P ⟨none, .store t x y, ty, ps, af, none⟩ (ev ρ) w fun v w' => Ext (fun b => hdV (ρ dd) = some b) w w' ∧ fact F i (putO ρ none v) w' := by
  refine ⟨rfl, ?_⟩
  obtain ⟨b, hb, hge, hM⟩ := ha
  obtain ⟨w', hr, hM', hE⟩ := run_storeCells (P := P) cs 0 cs0 w hM (by omega) h1
  have hrun : (execOp (ev ρ) ⟨none, .store t x y, ty, ps, af, none⟩).run P w = .ok .skip w' := by
    simp [execOp, hx, hy, hb, hst, hr]
  unfold Yield
  rw [hrun]
  refine ⟨hE.mono (fun c hc => by subst hc; rw [hb]; rfl), ?_⟩
  unfold fact
  rw [hF]
  refine ⟨b, hb, hge, ?_⟩
  have e : cs0.take 0 ++ cs ++ cs0.drop (0 + cs.length) = cs := by simp [hl]
  rw [e] at hM'
  exact hM'
theorem TStable.box {G0 : Nat} {t : Nat} {T : TypeId} {cs : List Value} : TStable (t, fun u wz => ∃ b, u = .pointer (some ⟨b, 0, none⟩) ∧ G0 ≤ b ∧ Mb wz b T cs) :=
  fun _ _ _ _ hG hE ⟨b, hb, hs, hM⟩ => ⟨b, hb, hs, hM.ext hE (hG b (by rw [hb]; rfl))⟩
theorem hdV_own {v : Value} {b : Nat} (h : v.ownBlock = some b) : hdV v = some b := by
  cases v <;> simp only [Value.ownBlock] at h <;> try cases h
  rename_i a _ _
  cases a with
  | none => cases h
  | some a => exact h
theorem own_hdV {α : Type} {B : Nat} {E : TypeId} {n : Nat} {cells : α → List Value} {w : World} {v : Value} {l : List α} (h : Own B E n cells w v l) {b : Nat} (hb : hdV v = some b) : v.ownBlock = some b := by
  obtain ⟨a, c, hv, _⟩ := h.shape
  rw [hv] at hb ⊢
  cases a with
  | none => cases hb
  | some a => exact hb
theorem TStable.nsl {G0 t n : Nat} {T : TypeId} {cs : List Value} : TStable (t, fun u wz => ∃ b, u = .slice (some ⟨b, 0, none⟩) n n ∧ G0 ≤ b ∧ Mb wz b T cs) :=
  fun _ _ _ _ hG hE ⟨b, hb, hs, hM⟩ => ⟨b, hb, hs, hM.ext hE (hG b (by rw [hb]; rfl))⟩
theorem TStable.own {α : Type} {t B : Nat} {E : TypeId} {n : Nat} {cells : α → List Value} {l : List α} {Q : Value → Prop} : TStable (t, fun u wz => Own B E n cells wz u l ∧ Q u) :=
  fun _ _ _ _ hG hE ⟨hO, hq⟩ => ⟨hO.ext hE (fun b hb => hG b (hdV_own hb)), hq⟩
/-- A slice literal in a region that makes several things. -/
theorem core_sliceN {o : Oper} {dd : Tmp} {E : TypeId} {cs : List Value} {k : Nat} {w0 : World} (hg : o.guard = none) (hd : o.dst = some dd) (hF : F[i]? = some (dd, fun u w' => ∃ b, u = .slice (some ⟨b, 0, none⟩) k k ∧ w0.heap.size ≤ b ∧ Mb w' b E cs))
    (h0 : Ext G w0 w) (h : (execOp (ev ρ) o).run P w = .ok (.value (.slice (some ⟨w.heap.size, 0, none⟩) k k)) (w.alloc (.cells cs.toArray E))) :
    o.guard = none ∧ Yield P o (ev ρ) w fun v w' => (∀ b, hdV v = some b → w.heap.size ≤ b ∧ b < w'.heap.size) ∧ Ext noG w w' ∧ fact F i (putO ρ o.dst v) w' := by
  refine ⟨hg, ?_⟩
  unfold Yield
  rw [h]
  refine ⟨?_, Ext.alloc _ _ _, ?_⟩
  · intro b hb
    obtain rfl := Option.some.inj hb
    refine ⟨Nat.le_refl _, ?_⟩
    show w.heap.size < (w.heap.push _).size
    simp
  unfold fact
  rw [hF, hd]
  exact ⟨_, upd_same _ _ _, h0.size, Mb.alloc w E cs⟩
/-- append on nil in a region that makes several things. -/
theorem core_appendNN {α : Type} {B : Nat} {t ty E : TypeId} {n bytes : Nat} {cells : α → List Value} {s x : Operand} {xv : Value} {l xs r : List α} {ps : String} {af : Array Edge} {dd : Tmp} {w0 : World}
    {Φ : Value → World → Prop} (hF : F[i]? = some (dd, Φ)) (hs : ev ρ s = .slice none 0 0) (hxv : ev ρ x = xv)
    (hn : ∀ x, (cells x).length = n) (h1 : ∀ x, ∀ u ∈ cells x, u.oneCell' = true)
    (ht : P.underlying t = some (.slice E)) (hi : (P.info? E).map (fun i => (i.zero.map (·.cells.size), i.size, i.bytes)) = some (some n, n, bytes)) (hpos : 0 < n) (hbpos : 0 < bytes)
    (hown : Own B E n cells w (.slice none 0 0) l) (hx : ∃ G, RepSl (TyR.flat n cells hn) G w xv xs) (hb : appI bytes l xs = some r) (hB : B ≤ w.heap.size) (hw0 : w0.heap.size ≤ w.heap.size)
    (hΦ : ∀ v' w', Own B E n cells w' v' r → (∀ b, v'.ownBlock = some b → (Value.slice none 0 0).ownBlock = some b ∨ w0.heap.size ≤ b) → Φ v' w') :
    (⟨some dd, .call ⟨.builtin .append, #[s, x], #[t, t]⟩, ty, ps, af, none⟩ : Oper).guard = none ∧ Yield P ⟨some dd, .call ⟨.builtin .append, #[s, x], #[t, t]⟩, ty, ps, af, none⟩ (ev ρ) w fun v w' => (∀ b, hdV v = some b → w.heap.size ≤ b ∧ b < w'.heap.size) ∧ Ext noG w w' ∧ fact F i (putO ρ (some dd) v) w' := by
  refine ⟨rfl, ?_⟩
  obtain ⟨hbb, hrr⟩ := appI_some hb
  obtain ⟨v', w', hr, ho, hE, hfr⟩ := run_append (P := P) (ty := ty) hn h1 ht hi hpos hbpos hown hx hbb hB
  have hrun : (execOp (ev ρ) ⟨some dd, .call ⟨.builtin .append, #[s, x], #[t, t]⟩, ty, ps, af, none⟩).run P w = .ok (.value v') w' := by
    simp [execOp, resolve, invoke, builtin, hs, hxv, hr]
  have hE' : Ext noG w w' := hE.mono (fun b hb => by simp [Value.ownBlock] at hb)
  unfold Yield
  rw [hrun]
  refine ⟨fun b hb => ?_, hE', ?_⟩
  · have h2 := own_hdV ho hb
    exact ⟨(hfr b h2).resolve_left (by simp [Value.ownBlock]), (ho.lt h2).2⟩
  unfold fact
  rw [hF]
  show Φ (upd ρ dd v' dd) w'
  rw [upd_same]
  refine hΦ v' w' (hrr ▸ ho) (fun b hb => ?_)
  rcases hfr b hb with h2 | h2
  · exact .inl h2
  · exact .inr (Nat.le_trans hw0 h2)
/-- append on a slice that the region itself has made. -/
theorem core_appendT {α : Type} {B : Nat} {t ty E : TypeId} {n bytes : Nat} {cells : α → List Value} {x : Operand} {d0 : Nat} {xv : Value} {l xs r : List α} {ps : String} {af : Array Edge} {dd : Tmp} {w0 : World}
    {Φ : Value → World → Prop} (hF : F[i]? = some (dd, Φ)) (hxv : ev ρ x = xv)
    (hn : ∀ x, (cells x).length = n) (h1 : ∀ x, ∀ u ∈ cells x, u.oneCell' = true)
    (ht : P.underlying t = some (.slice E)) (hi : (P.info? E).map (fun i => (i.zero.map (·.cells.size), i.size, i.bytes)) = some (some n, n, bytes)) (hpos : 0 < n) (hbpos : 0 < bytes)
    (hown : Own B E n cells w (ρ d0) l) (hx : ∃ G, RepSl (TyR.flat n cells hn) G w xv xs) (hb : appI bytes l xs = some r) (hB : B ≤ w.heap.size) (hw0 : w0.heap.size ≤ w.heap.size)
    (hΦ : ∀ v' w', Own B E n cells w' v' r → (∀ b, v'.ownBlock = some b → (ρ d0).ownBlock = some b ∨ w0.heap.size ≤ b) → Φ v' w') :
    (⟨some dd, .call ⟨.builtin .append, #[.tmp d0, x], #[t, t]⟩, ty, ps, af, none⟩ : Oper).guard = none ∧ Yield P ⟨some dd, .call ⟨.builtin .append, #[.tmp d0, x], #[t, t]⟩, ty, ps, af, none⟩ (ev ρ) w fun v w' => Ext (fun b => hdV (ρ d0) = some b) w w' ∧ fact F i (putO ρ (some dd) v) w' := by
  refine ⟨rfl, ?_⟩
  obtain ⟨hbb, hrr⟩ := appI_some hb
  obtain ⟨v', w', hr, ho, hE, hfr⟩ := run_append (P := P) (ty := ty) hn h1 ht hi hpos hbpos hown hx hbb hB
  have hrun : (execOp (ev ρ) ⟨some dd, .call ⟨.builtin .append, #[.tmp d0, x], #[t, t]⟩, ty, ps, af, none⟩).run P w = .ok (.value v') w' := by
    have hd : ev ρ (.tmp d0) = ρ d0 := rfl
    simp [execOp, resolve, invoke, builtin, hd, hxv, hr]
  unfold Yield
  rw [hrun]
  refine ⟨hE.mono (fun b hb => hdV_own hb), ?_⟩
  unfold fact
  rw [hF]
  show Φ (upd ρ dd v' dd) w'
  rw [upd_same]
  refine hΦ v' w' (hrr ▸ ho) (fun b hb => ?_)
  rcases hfr b hb with h2 | h2
  · exact .inl h2
  · exact .inr (Nat.le_trans hw0 h2)
theorem ne_of_ptr {v v' : Value} {b b' : Nat} (h : v ≠ v') (h1 : v = .pointer (some ⟨b, 0, none⟩)) (h2 : v' = .pointer (some ⟨b', 0, none⟩)) : b ≠ b' := by
  rintro rfl; exact h (h1.trans h2.symm)
end
theorem one_val {v : Value} (h : v.oneCell' = true) : ∀ u ∈ [v], u.oneCell' = true := by
  intro u hu
  rw [List.mem_singleton.1 hu]; exact h
theorem oneC_slice {v : Value} (h : ∃ a n c, v = .slice a n c) : v.oneCell' = true := by
  obtain ⟨_, _, _, rfl⟩ := h; rfl
theorem oneC_func {v : Value} (h : ∃ f a c, v = .func f a c) : v.oneCell' = true := by
  obtain ⟨_, _, _, rfl⟩ := h; rfl
theorem call_args0 {η : Operand → Value} : (#[] : Array Operand).map η = #[] := by simp
end Go.PL
