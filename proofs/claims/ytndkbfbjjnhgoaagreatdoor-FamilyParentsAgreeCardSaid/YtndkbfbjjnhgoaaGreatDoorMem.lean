/- Memory, for the program logic of Core: known cells, boxes, slices that are only read; calls; results; joins. It holds for every program. -/
import Derived.Test.YtndkbfbjjnhgoaaGreatDoorOps
import Derived.Deep.Slices
namespace Go.PL
open Go

/-! ### cells -/
/-- From address a on lie the values cs. -/
def CA (w : World) (a : Addr) (cs : List Value) : Prop := ∀ j v, cs[j]? = some v → w.cell? (a.add j) = some v

theorem CA.sub {w : World} {a : Addr} {cs : List Value} (h : CA w a cs) (k m : Nat) : CA w (a.add k) ((cs.drop k).take m) := by
  intro j v hj
  rw [Deep.add_add]
  refine h (k + j) v ?_
  rw [List.getElem?_take] at hj
  split at hj
  · rw [List.getElem?_drop] at hj; exact hj
  · cases hj
theorem CA.one {w : World} {a : Addr} {v : Value} (h : CA w a [v]) : w.cell? a = some v := h 0 v rfl
theorem CA.nil (w : World) (a : Addr) : CA w a [] := fun j v h => by simp at h

theorem add_block (a : Addr) (k : Nat) : (a.add k).block = a.block := by unfold Addr.add; split <;> rfl

theorem CA.of_block {w w' : World} {a : Addr} {cs : List Value} (h : CA w a cs) (hb : w'.heap[a.block]? = w.heap[a.block]?) : CA w' a cs := by
  intro j v hj
  rw [World.cell?_of_block (w := w) (by rw [add_block]; exact hb)]
  exact h j v hj

theorem run_load1 {P : Program} {w : World} {t : TypeId} {a : Addr} {v : Value} (ht : (Instr.loadAt t (.pointer (some a))).run P w = (load a).run P w) (h : CA w a [v]) :
    (Instr.loadAt t (.pointer (some a))).run P w = .ok v w := by
  rw [ht]; simp [h.one]
theorem run_loadCellsFrom {P : Program} {w : World} {a : Addr} : ∀ (n i : Nat) (acc : Array Value) (cs : List Value), cs.length = n → (∀ j v, cs[j]? = some v → w.cell? (a.add (i + j)) = some v) →
    (loadCellsFrom a i n acc).run P w = .ok (acc ++ cs.toArray) w
  | 0, i, acc, cs, hn, _ => by
    have : cs = [] := List.length_eq_zero_iff.1 hn
    subst this
    simp [loadCellsFrom]
  | n + 1, i, acc, [], hn, _ => by simp at hn
  | n + 1, i, acc, c :: cs, hn, h => by
    have h0 := h 0 c rfl
    simp only [Nat.add_zero] at h0
    simp only [loadCellsFrom, Sem.run_bind, run_load, h0, Result.andThen_ok]
    rw [run_loadCellsFrom n (i + 1) _ cs (by simpa using hn) (fun j v hj => by have := h (j + 1) v (by simpa using hj); rwa [show i + 1 + j = i + (j + 1) by omega])]
    simp
theorem run_loadN {P : Program} {w : World} {t : TypeId} {a : Addr} {n : Nat} {cs : List Value} (ht : (Instr.loadAt t (.pointer (some a))).run P w = ((do pure (.agg (← loadCells a n))) : Sem Value).run P w)
    (hn : cs.length = n) (h : CA w a cs) : (Instr.loadAt t (.pointer (some a))).run P w = .ok (.agg cs.toArray) w := by
  rw [ht]
  simp [loadCells, run_loadCellsFrom n 0 #[] cs hn (fun j v hj => by rw [Nat.zero_add]; exact h j v hj)]

/-! ### boxes: blocks of one variable -/
/-- Block b is a variable of type T that holds cs. -/
def Mb (w : World) (b : Nat) (T : TypeId) (cs : List Value) : Prop := w.heap[b]? = some (.cells cs.toArray T (0, 0))

theorem Mb.lt {w : World} {b : Nat} {T : TypeId} {cs : List Value} (h : Mb w b T cs) : b < w.heap.size := (Array.getElem?_eq_some_iff.1 h).1
theorem Mb.ext {G : Nat → Prop} {w w' : World} {b : Nat} {T : TypeId} {cs : List Value} (h : Mb w b T cs) (hE : Ext G w w') (hg : ¬ G b) : Mb w' b T cs := (hE.block b h.lt hg).trans h
theorem Mb.exn {w w' : World} {b : Nat} {T : TypeId} {cs : List Value} (h : Mb w b T cs) (hE : Ext noG w w') : Mb w' b T cs := h.ext hE (fun hh => hh)
theorem Mb.ca {w : World} {b : Nat} {T : TypeId} {cs : List Value} (h : Mb w b T cs) : CA w ⟨b, 0, none⟩ cs := by
  intro j v hj
  have ha : (⟨b, 0, none⟩ : Addr).add j = ⟨b, j, none⟩ := by unfold Addr.add; split <;> simp_all
  rw [ha]
  unfold World.cell?
  rw [show w.heap[b]? = some (.cells cs.toArray T (0, 0)) from h]
  simpa using hj
theorem Mb.frozen {w : World} {b : Nat} {T : TypeId} {cs : List Value} (h : Mb w b T cs) (j : Nat) : w.frozen? ⟨b, j, none⟩ = false := by
  unfold World.frozen?
  rw [show w.heap[b]? = some (.cells cs.toArray T (0, 0)) from h]
  simp
theorem Mb.alloc (w : World) (T : TypeId) (cs : List Value) : Mb (w.alloc (.cells cs.toArray T)) w.heap.size T cs := by
  show (w.heap.push _)[w.heap.size]? = _
  simp

/-- Stores into a box, cell after cell. -/
theorem run_storeCells {P : Program} {b : Nat} {T : TypeId} : ∀ (vs : List Value) (k : Nat) (cs : List Value) (w : World), Mb w b T cs → k + vs.length ≤ cs.length → (∀ v ∈ vs, v.oneCell' = true) →
    ∃ w', (storeCells ⟨b, 0, none⟩ vs k).run P w = .ok () w' ∧ Mb w' b T (cs.take k ++ vs ++ cs.drop (k + vs.length)) ∧ Ext (fun x => x = b) w w'
  | [], k, cs, w, h, _, _ => ⟨w, by simp [storeCells], by simpa using h, Ext.refl _ _⟩
  | v :: vs, k, cs, w, h, hk, h1 => by
    have hklt : k < cs.length := by simp at hk; omega
    have ha : (⟨b, 0, none⟩ : Addr).add k = ⟨b, k, none⟩ := by unfold Addr.add; split <;> simp_all
    have hc : w.cell? ⟨b, k, none⟩ = some cs[k] := by rw [← ha]; exact h.ca k _ (List.getElem?_eq_getElem hklt)
    have hv : v.oneCell' = true := h1 v (by simp)
    have hst : (store ⟨b, k, none⟩ v).run P w = .ok () (w.setCell ⟨b, k, none⟩ v) := by
      rw [run_store P w _ v .plain hv]
      simp [hc, h.frozen k]
    have hM : Mb (w.setCell ⟨b, k, none⟩ v) b T (cs.set k v) := by
      show (w.heap.modify b _)[b]? = _
      rw [Array.getElem?_modify, if_pos rfl, show w.heap[b]? = some (.cells cs.toArray T (0, 0)) from h]
      simp
    have hE : Ext (fun x => x = b) w (w.setCell ⟨b, k, none⟩ v) := ⟨rfl, rfl, rfl, by simp [World.setCell], fun i _ hne => RowKit.Below.heap_setCell w _ v i hne, Nat.le_refl _⟩
    obtain ⟨w', hr, hM', hE'⟩ := run_storeCells vs (k + 1) (cs.set k v) (w.setCell ⟨b, k, none⟩ v) hM (by simp at hk ⊢; omega) (fun u hu => h1 u (by simp [hu]))
    refine ⟨w', ?_, ?_, hE.trans hE'⟩
    · simp only [storeCells, Sem.run_bind, ha, hst, Result.andThen_ok]
      exact hr
    · have e : (cs.set k v).take (k + 1) ++ vs ++ (cs.set k v).drop (k + 1 + vs.length) = cs.take k ++ v :: vs ++ cs.drop (k + (v :: vs).length) := by
        rw [List.take_set, List.drop_set, if_pos (by omega)]
        have h2 : (cs.take (k + 1)).set k v = cs.take k ++ [v] := by
          rw [List.take_succ_eq_append_getElem hklt, List.set_append]
          simp [Nat.min_eq_left (Nat.le_of_lt hklt)]
        rw [h2]
        simp [Nat.add_comm, Nat.add_left_comm]
      rw [e] at hM'
      exact hM'

/-! ### slices that are read -/
/-- How a value of a Go type reads as a Lean value: its cells. -/
structure TyR (α : Type) where
  n : Nat
  rep : (Nat → Prop) → World → List Value → α → Prop
  len : ∀ {G w cs x}, rep G w cs x → cs.length = n
  ext : ∀ {G w w' cs x}, rep G w cs x → Ext G w w' → rep G w' cs x
  weaken : ∀ {G G' w cs x}, rep G w cs x → (∀ b, b < w.heap.size → G' b → G b) → rep G' w cs x

/-- A type whose values lie whole in their cells. -/
def TyR.flat {α : Type} (n : Nat) (cells : α → List Value) (h : ∀ x, (cells x).length = n) : TyR α where
  n := n
  rep := fun _ _ cs x => cs = cells x
  len := fun hr => hr ▸ h _
  ext := fun hr _ => hr
  weaken := fun hr _ => hr
def intR : TyR Int := TyR.flat 1 (fun x => [.int .i64 x]) (fun _ => rfl)
def boolR : TyR Bool := TyR.flat 1 (fun x => [.bool x]) (fun _ => rfl)

/-- The value v is a slice that reads as l; nothing of it lies in a block of G. -/
def RepSl {α : Type} (R : TyR α) (G : Nat → Prop) (w : World) (v : Value) (l : List α) : Prop :=
  (v = .slice none 0 0 ∧ l = []) ∨
  ∃ a cap, v = .slice (some a) l.length cap ∧ l.length ≤ cap ∧ cap ≤ maxLen ∧ (∀ i x, l[i]? = some x → ∃ cs, R.rep G w cs x ∧ a.block < w.heap.size ∧ ¬ G a.block ∧ CA w (a.add (i * R.n)) cs)

section
variable {α : Type} {R : TyR α} {G : Nat → Prop} {w w' : World} {v : Value} {l : List α}
theorem RepSl.ext (h : RepSl R G w v l) (hE : Ext G w w') : RepSl R G w' v l := by
  rcases h with h | ⟨a, cap, hv, hc, hm, hi⟩
  · exact .inl h
  · refine .inr ⟨a, cap, hv, hc, hm, fun i x hx => ?_⟩
    obtain ⟨cs, hr, hb, hg, hca⟩ := hi i x hx
    refine ⟨cs, R.ext hr hE, Nat.lt_of_lt_of_le hb hE.size, hg, hca.of_block ?_⟩
    rw [add_block]
    exact hE.block _ hb hg
theorem RepSl.exn (h : RepSl R G w v l) (hE : Ext noG w w') : RepSl R G w' v l := h.ext hE.of_no
theorem RepSl.weaken {G' : Nat → Prop} (h : RepSl R G w v l) (hG : ∀ b, b < w.heap.size → G' b → G b) : RepSl R G' w v l := by
  rcases h with h | ⟨a, cap, hv, hc, hm, hi⟩
  · exact .inl h
  · refine .inr ⟨a, cap, hv, hc, hm, fun i x hx => ?_⟩
    obtain ⟨cs, hr, hb, hg, hca⟩ := hi i x hx
    exact ⟨cs, R.weaken hr hG, hb, fun h => hg (hG _ hb h), hca⟩
theorem RepSl.nil (R : TyR α) (G : Nat → Prop) (w : World) : RepSl R G w (.slice none 0 0) [] := .inl ⟨rfl, rfl⟩
theorem RepSl.shape (h : RepSl R G w v l) : ∃ a cap, v = .slice a l.length cap ∧ l.length ≤ cap ∧ cap ≤ maxLen := by
  rcases h with ⟨h, rfl⟩ | ⟨a, cap, hv, hc, hm, _⟩
  · exact ⟨none, 0, h, Nat.le_refl _, Nat.zero_le _⟩
  · exact ⟨some a, cap, hv, hc, hm⟩

/-- l[i], where it is. -/
def getI (l : List α) (i : Int) : Option α := if 0 ≤ i then l[i.toNat]? else none
theorem getI_lt {i : Int} {x : α} (h : getI l i = some x) : 0 ≤ i ∧ i < (l.length : Int) ∧ l[i.toNat]? = some x := by
  unfold getI at h
  split at h
  · have h1 : i.toNat < l.length := (List.getElem?_eq_some_iff.1 h).1
    exact ⟨by assumption, by omega, h⟩
  · cases h
theorem RepSl.get (h : RepSl R G w v l) {i : Int} {x : α} (hx : getI l i = some x) :
    ∃ a cap cs, v = .slice (some a) l.length cap ∧ (0 ≤ i ∧ i < (l.length : Int)) ∧ R.rep G w cs x ∧ a.block < w.heap.size ∧ ¬ G a.block ∧ CA w (a.add (i.toNat * R.n)) cs := by
  obtain ⟨h0, h1, h2⟩ := getI_lt hx
  rcases h with ⟨_, rfl⟩ | ⟨a, cap, hv, hc, hm, hi⟩
  · simp at h2
  · obtain ⟨cs, hr, hb, hg, hca⟩ := hi _ _ h2
    exact ⟨a, cap, cs, hv, ⟨h0, h1⟩, hr, hb, hg, hca⟩
end

/-- Known cells that stay known. -/
structure At (w : World) (a : Addr) (cs : List Value) : Prop where
  lt : a.block < w.heap.size
  ca : CA w a cs
theorem At.exn {w w' : World} {a : Addr} {cs : List Value} (h : At w a cs) (hE : Ext noG w w') : At w' a cs :=
  ⟨Nat.lt_of_lt_of_le h.lt hE.size, h.ca.of_block (hE.block _ h.lt (fun hh => hh))⟩

theorem RepSl.getF {α : Type} {n : Nat} {cells : α → List Value} {hn : ∀ x, (cells x).length = n} {G : Nat → Prop} {w : World} {v : Value} {l : List α} (h : RepSl (TyR.flat n cells hn) G w v l) {i : Int} {x : α} (hx : getI l i = some x) :
    ∃ a cap, v = .slice (some a) l.length cap ∧ (0 ≤ i ∧ i < (l.length : Int)) ∧ At w (a.add (i.toNat * n)) (cells x) := by
  obtain ⟨a, cap, cs, hv, hi, hr, hb, _, hca⟩ := h.get hx
  have hr : cs = cells x := hr
  subst hr
  exact ⟨a, cap, hv, hi, by rw [add_block]; exact hb, hca⟩

/-! ### binds -/
theorem obind {α β : Type} {o : Option α} {f : α → Option β} {r : β} (h : o.bind f = some r) : ∃ x, o = some x ∧ f x = some r := by
  cases o with
  | none => cases h
  | some x => exact ⟨x, rfl, h⟩
/-- A loop: the body is given what goes on with the next round. -/
def loopC {σ ρ : Type} : Nat → ((σ → Option ρ) → σ → Option ρ) → σ → Option ρ
  | 0, _, _ => none
  | k + 1, f, s => f (loopC k f) s
def FU : Nat := 2 ^ 70
def quoI (a b : Int) : Option Int := if b = 0 then none else some (i64 (a.tdiv b))
def remI (a b : Int) : Option Int := if b = 0 then none else some (a.tmod b)
def quoU (a b : Int) : Option Int := if b = 0 then none else some (u64 (a.tdiv b))
theorem quoI_some {a b c : Int} (h : quoI a b = some c) : b ≠ 0 ∧ IntKind.i64.wrap (a.tdiv b) = c := by
  unfold quoI at h; split at h
  · cases h
  · exact ⟨by assumption, Option.some.inj h⟩
theorem quoU_some {a b c : Int} (h : quoU a b = some c) : b ≠ 0 ∧ IntKind.u64.wrap (a.tdiv b) = c := by
  unfold quoU at h; split at h
  · cases h
  · exact ⟨by assumption, Option.some.inj h⟩
theorem remI_some {a b c : Int} (h : remI a b = some c) : b ≠ 0 ∧ a.tmod b = c := by
  unfold remI at h; split at h
  · cases h
  · exact ⟨by assumption, Option.some.inj h⟩

/-! ### facts, guards, calls -/
def anyF (t : Nat) : Fact := (t, fun _ _ => True)
theorem Stable.any (G : Nat → Prop) (t : Nat) : Stable G (anyF t) := fun _ _ _ _ h => h
theorem gd {ops : List Oper} {ρ : Nat → Value} {g dg : Nat} {b : Bool} (hd : (ops[g]?).bind (·.dst) = some dg) (hu : ρ dg = .bool b) : yl ops ρ g = some b := by
  unfold yl; rw [hd]; simp [hu]
theorem gYes {ops : List Oper} {ρ : Nat → Value} {g dg : Nat} {want : Bool} {A B : Prop} (hd : (ops[g]?).bind (·.dst) = some dg) (hu : ρ dg = .bool want) (a : A) : (yl ops ρ g = some want → A) ∧ (yl ops ρ g ≠ some want → B) :=
  ⟨fun _ => a, fun h => absurd (gd hd hu) h⟩
theorem gNo {ops : List Oper} {ρ : Nat → Value} {g dg : Nat} {b want : Bool} {A B : Prop} (hd : (ops[g]?).bind (·.dst) = some dg) (hu : ρ dg = .bool b) (hne : (b == want) = false) (x : B) : (yl ops ρ g = some want → A) ∧ (yl ops ρ g ≠ some want → B) :=
  ⟨fun h => by have := (gd hd hu).symm.trans h; simp at this; simp [this] at hne, fun _ => x⟩
/-- A guard's operation that was itself passed over. -/
theorem gOff {ops : List Oper} {ρ : Nat → Value} {g dg : Nat} {want : Bool} {A B : Prop} (hd : (ops[g]?).bind (·.dst) = some dg) (hu : ρ dg = undef) (x : B) : (yl ops ρ g = some want → A) ∧ (yl ops ρ g ≠ some want → B) :=
  ⟨fun h => by unfold yl at h; rw [hd] at h; simp [hu, undef] at h, fun _ => x⟩

section
variable {P : Program} {w : World} {G : Nat → Prop} {ρ : Nat → Value} {F : List Fact} {p : Plan} {i : Nat}
theorem core_valE {o : Oper} {dd : Tmp} {v v' : Value} (hd : o.dst = some dd) (hF : F[i]? = some (val dd v)) (hv : v' = v) (h : YV P (ev ρ) w o v') :
    Yield P o (ev ρ) w fun v w' => Ext (if p.mu.contains i then G else noG) w w' ∧ fact F i (putO ρ o.dst v) w' := by
  subst hv; exact core_val hd hF h
/-- A call whose result is known: its fact is that value. -/
theorem core_call {f : FuncId} {xs : Array Operand} {tys : Array TypeId} {ty : TypeId} {ps : String} {af : Array Edge} {g : Option (Nat × Bool)} {dd : Tmp} {v : Value} {args : Array Value}
    (hF : F[i]? = some (val dd v)) (hargs : xs.map (ev ρ) = args) (hcf : ∀ (args : Array Value) (w : World), (callFunc f args).run P w = .ok (.enter f args) w)
    (hc : Calls P f args w fun e w' => e = .returned v ∧ Ext noG w w') :
    Yield P ⟨some dd, .call ⟨.value (.func f), xs, tys⟩, ty, ps, af, g⟩ (ev ρ) w fun v w' => Ext (if p.mu.contains i then G else noG) w w' ∧ fact F i (putO ρ (some dd) v) w' := by
  have hr : (execOp (ev ρ) ⟨some dd, .call ⟨.value (.func f), xs, tys⟩, ty, ps, af, g⟩).run P w = .ok (.enter f args) w := by
    simp [execOp, resolve, ev, Deferred.ofValue, invoke, hargs, hcf]
  unfold Yield
  rw [hr]
  refine hc.mono (fun e w' ⟨he, hE⟩ => ⟨v, he, ?_, ?_⟩)
  · split
    · exact hE.of_no
    · exact hE
  · unfold fact
    rw [hF]
    exact upd_same _ _ _
/-- A call of which a relation is known. -/
theorem core_callR {f : FuncId} {xs : Array Operand} {tys : Array TypeId} {ty : TypeId} {ps : String} {af : Array Edge} {g : Option (Nat × Bool)} {dd : Tmp} {args : Array Value} {Φ : Value → World → Prop}
    (hF : F[i]? = some (dd, Φ)) (hargs : xs.map (ev ρ) = args) (hcf : ∀ (args : Array Value) (w : World), (callFunc f args).run P w = .ok (.enter f args) w)
    (hc : Calls P f args w fun e w' => ∃ v, e = .returned v ∧ Ext noG w w' ∧ Φ v w') :
    Yield P ⟨some dd, .call ⟨.value (.func f), xs, tys⟩, ty, ps, af, g⟩ (ev ρ) w fun v w' => Ext (if p.mu.contains i then G else noG) w w' ∧ fact F i (putO ρ (some dd) v) w' := by
  have hr : (execOp (ev ρ) ⟨some dd, .call ⟨.value (.func f), xs, tys⟩, ty, ps, af, g⟩).run P w = .ok (.enter f args) w := by
    simp [execOp, resolve, ev, Deferred.ofValue, invoke, hargs, hcf]
  unfold Yield
  rw [hr]
  refine hc.mono (fun e w' ⟨v, he, hE, hΦ⟩ => ⟨v, he, ?_, ?_⟩)
  · split
    · exact hE.of_no
    · exact hE
  · unfold fact
    rw [hF]
    show Φ (upd ρ dd v dd) w'
    rw [upd_same]
    exact hΦ
theorem o_alloc {η : Operand → Value} {d : Option Tmp} {ty : TypeId} {ps : String} {af : Array Edge} {g : Option (Nat × Bool)} {T : TypeId} {u : Value} {w' : World} (h : (Instr.alloc T true (.tuple #[])).run P w = .ok u w') :
    (execOp η ⟨d, .alloc T, ty, ps, af, g⟩).run P w = .ok (.value u) w' := by simp [execOp, h]
theorem o_box {η : Operand → Value} {d : Option Tmp} {ty : TypeId} {ps : String} {af : Array Edge} {g : Option (Nat × Bool)} {T : TypeId} {x : Operand} {v u : Value} {w' : World} (hx : η x = v) (h : (Instr.box T v).run P w = .ok u w') :
    (execOp η ⟨d, .box T x, ty, ps, af, g⟩).run P w = .ok (.value u) w' := by simp [execOp, hx, h]
/-- alloc, box. -/
theorem core_new {o : Oper} {dd : Tmp} {T : TypeId} {cs : List Value} {w0 : World} (hd : o.dst = some dd) (hF : F[i]? = some (dd, fun u w' => ∃ b, u = .pointer (some ⟨b, 0, none⟩) ∧ w0.heap.size ≤ b ∧ Mb w' b T cs))
    (h0 : Ext G w0 w) (h : (execOp (ev ρ) o).run P w = .ok (.value (.pointer (some ⟨w.heap.size, 0, none⟩))) (w.alloc (.cells cs.toArray T))) :
    Yield P o (ev ρ) w fun v w' => Ext (if p.mu.contains i then G else noG) w w' ∧ fact F i (putO ρ o.dst v) w' := by
  unfold Yield
  rw [h]
  refine ⟨Ext.alloc _ _ _, ?_⟩
  unfold fact
  rw [hF, hd]
  exact ⟨_, upd_same _ _ _, h0.size, Mb.alloc w T cs⟩
/-- A store into a box that the region itself has made. -/
theorem core_storeNew {t : TypeId} {x y : Operand} {ty : TypeId} {ps : String} {af : Array Edge} {g : Option (Nat × Bool)} {dd : Tmp} {T : TypeId} {cs cs0 : List Value} {v : Value} {w0 : World}
    (hF : F[i]? = some (dd, fun u w' => ∃ b, u = .pointer (some ⟨b, 0, none⟩) ∧ w0.heap.size ≤ b ∧ Mb w' b T cs)) (hm : p.mu.contains i = true) (hG : G = fun b => w0.heap.size ≤ b)
    (hx : ev ρ x = ρ dd) (hy : ev ρ y = v) (ha : ∃ b, ρ dd = .pointer (some ⟨b, 0, none⟩) ∧ w0.heap.size ≤ b ∧ Mb w b T cs0)
    (hst : ∀ (a : Addr) (w : World), (Instr.storeAt t (.pointer (some a)) v).run P w = (storeCells a cs).run P w) (hl : cs.length = cs0.length) (h1 : ∀ u ∈ cs, u.oneCell' = true) :
    Yield P ⟨none, .store t x y, ty, ps, af, g⟩ (ev ρ) w fun v w' => Ext (if p.mu.contains i then G else noG) w w' ∧ fact F i (putO ρ none v) w' := by
  obtain ⟨b, hb, hge, hM⟩ := ha
  obtain ⟨w', hr, hM', hE⟩ := run_storeCells (P := P) cs 0 cs0 w hM (by omega) h1
  have hrun : (execOp (ev ρ) ⟨none, .store t x y, ty, ps, af, g⟩).run P w = .ok .skip w' := by
    simp [execOp, hx, hy, hb, hst, hr]
  unfold Yield
  rw [hrun, hm, if_pos rfl]
  refine ⟨hE.mono (fun c hc => by subst hc; rw [hG]; exact hge), ?_⟩
  unfold fact
  rw [hF]
  refine ⟨b, hb, hge, ?_⟩
  have e : cs0.take 0 ++ cs ++ cs0.drop (0 + cs.length) = cs := by simp [hl]
  rw [e] at hM'
  exact hM'
/-- A store into a box that is known. -/
theorem core_storeBox {t : TypeId} {x y : Operand} {ty : TypeId} {ps : String} {af : Array Edge} {g : Option (Nat × Bool)} {dd b : Nat} {T : TypeId} {cs cs0 : List Value} {v : Value}
    (hF : F[i]? = some (dd, fun _ w' => Mb w' b T cs)) (hm : p.mu.contains i = true) (hG : ∀ x, x = b → G x)
    (hx : ev ρ x = .pointer (some ⟨b, 0, none⟩)) (hy : ev ρ y = v) (hM : Mb w b T cs0)
    (hst : ∀ (a : Addr) (w : World), (Instr.storeAt t (.pointer (some a)) v).run P w = (storeCells a cs).run P w) (hl : cs.length = cs0.length) (h1 : ∀ u ∈ cs, u.oneCell' = true) :
    Yield P ⟨none, .store t x y, ty, ps, af, g⟩ (ev ρ) w fun v w' => Ext (if p.mu.contains i then G else noG) w w' ∧ fact F i (putO ρ none v) w' := by
  obtain ⟨w', hr, hM', hE⟩ := run_storeCells (P := P) cs 0 cs0 w hM (by omega) h1
  have hrun : (execOp (ev ρ) ⟨none, .store t x y, ty, ps, af, g⟩).run P w = .ok .skip w' := by
    simp [execOp, hx, hy, hst, hr]
  unfold Yield
  rw [hrun, hm, if_pos rfl]
  refine ⟨hE.mono hG, ?_⟩
  unfold fact
  rw [hF]
  have e : cs0.take 0 ++ cs ++ cs0.drop (0 + cs.length) = cs := by simp [hl]
  rw [e] at hM'
  exact hM'
end

theorem Ext.own {G G0 : Nat → Prop} {w0 w w' : World} (h : Ext G0 w0 w) (hE : Ext G w w') (hG : ∀ x, G x → w0.heap.size ≤ x) : Ext G0 w0 w' :=
  ⟨hE.os.trans h.os, hE.tape.trans h.tape, hE.output.trans h.output, Nat.le_trans h.size hE.size,
    fun b hb hn => (hE.block b (Nat.lt_of_lt_of_le hb h.size) (fun hg => by have := hG b hg; omega)).trans (h.block b hb hn), Nat.le_trans h.drawn hE.drawn⟩
theorem Ext.fresh {w w' : World} (h : Ext (fun b => w.heap.size ≤ b) w w') : Ext noG w w' := ⟨h.os, h.tape, h.output, h.size, fun b hb _ => h.block b hb (by omega), h.drawn⟩

/-! ### more operations -/
section
variable {P : Program} {η : Operand → Value} {w : World} {d : Option Tmp} {ty : TypeId} {ps : String} {af : Array Edge} {g : Option (Nat × Bool)} {x y z : Operand} {v u : Value}
theorem o_max2 {k : IntKind} {a b : Int} {ts : Array TypeId} (hx : η x = .int k a) (hy : η y = .int k b) : YV P η w ⟨d, .call ⟨.builtin .max, #[x, y], ts⟩, ty, ps, af, g⟩ (.int k (max a b)) := by
  have : (if b > a then b else a) = max a b := by omega
  simp [YV, execOp, resolve, invoke, builtin, hx, hy, Builtin.max_, Builtin.max2, this]
theorem o_min2 {k : IntKind} {a b : Int} {ts : Array TypeId} (hx : η x = .int k a) (hy : η y = .int k b) : YV P η w ⟨d, .call ⟨.builtin .min, #[x, y], ts⟩, ty, ps, af, g⟩ (.int k (min a b)) := by
  have : (if b < a then b else a) = min a b := by omega
  simp [YV, execOp, resolve, invoke, builtin, hx, hy, Builtin.min_, Builtin.min2, this]
theorem build_parts1 {i : Nat} (hx : η x = v) : (#[(i, x)].map fun (i, x) => (i, η x)) = #[(i, v)] := by simp [hx]
theorem build_parts2 {i j : Nat} (hx : η x = v) (hy : η y = u) : (#[(i, x), (j, y)].map fun (i, x) => (i, η x)) = #[(i, v), (j, u)] := by simp [hx, hy]
theorem build_parts3 {i j k : Nat} {a : Value} (hx : η x = v) (hy : η y = u) (hz : η z = a) : (#[(i, x), (j, y), (k, z)].map fun (i, x) => (i, η x)) = #[(i, v), (j, u), (k, a)] := by simp [hx, hy, hz]
theorem build_parts4 {i j k l : Nat} {a b : Value} {q : Operand} (hx : η x = v) (hy : η y = u) (hz : η z = a) (hq : η q = b) : (#[(i, x), (j, y), (k, z), (l, q)].map fun (i, x) => (i, η x)) = #[(i, v), (j, u), (k, a), (l, b)] := by simp [hx, hy, hz, hq]
theorem call_args1 (hx : η x = v) : #[x].map η = #[v] := by simp [hx]
theorem call_args2 (hx : η x = v) (hy : η y = u) : #[x, y].map η = #[v, u] := by simp [hx, hy]
theorem call_args3 {a : Value} (hx : η x = v) (hy : η y = u) (hz : η z = a) : #[x, y, z].map η = #[v, u, a] := by simp [hx, hy, hz]
theorem call_args4 {a b : Value} {q : Operand} (hx : η x = v) (hy : η y = u) (hz : η z = a) (hq : η q = b) : #[x, y, z, q].map η = #[v, u, a, b] := by simp [hx, hy, hz, hq]
theorem call_args5 {a b c : Value} {q s : Operand} (hx : η x = v) (hy : η y = u) (hz : η z = a) (hq : η q = b) (hs : η s = c) : #[x, y, z, q, s].map η = #[v, u, a, b, c] := by simp [hx, hy, hz, hq, hs]
theorem call_args6 {a b c e : Value} {q s t : Operand} (hx : η x = v) (hy : η y = u) (hz : η z = a) (hq : η q = b) (hs : η s = c) (ht : η t = e) : #[x, y, z, q, s, t].map η = #[v, u, a, b, c, e] := by simp [hx, hy, hz, hq, hs, ht]
theorem ia_slice {t e : TypeId} {m : Nat} {a : Addr} {n c : Nat} {i : Int} (ht : P.underlying t = some (.slice e)) (he : (P.info? e).map (·.size) = some m) (h : 0 ≤ i ∧ i < (n : Int)) :
    (Instr.indexAt t (.slice (some a) n c) (.int .i64 i)).run P w = .ok (.pointer (some (a.add (i.toNat * m)))) w := by
  cases hi : P.info? e with
  | none => simp [hi] at he
  | some q =>
    simp only [hi, Option.map_some, Option.some.injEq] at he
    simp [Instr.indexAt, run_underlying ht, asIntOf, h, sizeOf, typeInfo, hi, he]
theorem ia_array {t e : TypeId} {m n : Nat} {a : Addr} {i : Int} (ht : P.underlying t = some (.array n e)) (he : (P.info? e).map (·.size) = some m) (h : 0 ≤ i ∧ i < (n : Int)) :
    (Instr.indexAt t (.pointer (some a)) (.int .i64 i)).run P w = .ok (.pointer (some (a.add (i.toNat * m)))) w := by
  cases hi : P.info? e with
  | none => simp [hi] at he
  | some q =>
    simp only [hi, Option.map_some, Option.some.injEq] at he
    simp [Instr.indexAt, Instr.sureAddr, run_underlying ht, asIntOf, h, sizeOf, typeInfo, hi, he]
def arrV {α : Type} (cells : α → List Value) (l : List α) : Value := .agg (l.flatMap cells).toArray
theorem arr_lt {α : Type} {l : List α} {i : Int} {x : α} (h : getI l i = some x) {n : Nat} (hn : l.length = n) : 0 ≤ i ∧ i < (n : Int) := by
  obtain ⟨h0, h1, _⟩ := getI_lt h
  exact ⟨h0, hn ▸ h1⟩
theorem CA.elem {α : Type} {cells : α → List Value} (n : Nat) (hn : ∀ x, (cells x).length = n) : ∀ {l : List α} {w : World} {a : Addr} {i : Int} {x : α}, CA w a (l.flatMap cells) → getI l i = some x → CA w (a.add (i.toNat * n)) (cells x) := by
  intro l w a i x h hx
  obtain ⟨_, _, h2⟩ := getI_lt hx
  generalize i.toNat = k at *
  clear hx
  have key : ∀ (l : List α) (k : Nat), l[k]? = some x → ((l.flatMap cells).drop (k * n)).take n = cells x := by
    intro l
    induction l with
    | nil => intro k h; simp at h
    | cons y r ih =>
      intro k h
      cases k with
      | zero =>
        simp at h; subst h
        simp [← hn y]
      | succ k =>
        have h1 : r[k]? = some x := by simpa using h
        rw [List.flatMap_cons, Nat.succ_mul, Nat.add_comm, ← List.drop_drop]
        rw [← hn y, List.drop_left]
        have := ih k h1
        rw [← hn y] at this
        exact this
  have h3 := h.sub (k * n) n
  rw [key l k h2] at h3
  exact h3
end

theorem one_flatMap {α : Type} {cells : α → List Value} {l : List α} (h : ∀ x, ∀ u ∈ cells x, u.oneCell' = true) : ∀ u ∈ l.flatMap cells, u.oneCell' = true := by
  intro u hu
  obtain ⟨x, _, hx⟩ := List.mem_flatMap.1 hu
  exact h x u hx
theorem length_flatMap {α : Type} {cells : α → List Value} {n : Nat} (hn : ∀ x, (cells x).length = n) : ∀ l : List α, (l.flatMap cells).length = l.length * n
  | [] => by simp
  | x :: r => by rw [List.flatMap_cons, List.length_append, hn, length_flatMap hn r, List.length_cons, Nat.succ_mul]; omega
theorem st_array {P : Program} {w : World} {α : Type} {cells : α → List Value} {T : TypeId} {n m : Nat} {l : List α} {a : Addr} (ht : (P.info? T).map (·.size) = some (m * n)) (hn : ∀ x, (cells x).length = n) (hl : l.length = m) :
    (Instr.storeAt T (.pointer (some a)) (arrV cells l)).run P w = (storeCells a (l.flatMap cells)).run P w := by
  cases hi : P.info? T with
  | none => simp [hi] at ht
  | some q =>
    simp only [hi, Option.map_some, Option.some.injEq] at ht
    have h1 := length_flatMap hn l
    simp [Instr.storeAt, Instr.sureAddr, storeVar, sizeOf, typeInfo, hi, ht, arrV, Value.cells, h1, hl]

/-! ### code -/
section
variable {P : Program} {n : Nat} {Q : Exit → (Nat → Value) → World → Prop} {ρ : Nat → Value} {w : World}
theorem WP.seqJ {x y : Code} (M : (Nat → Value) → World → Prop) (h : WP P n x (thenQ M Q) ρ w) (hk : ∀ ρ' w', M ρ' w' → WP P n y Q ρ' w') : WP P n (.seq x y) Q ρ w :=
  WP.seq (h.mono fun e ρ' w' hh => by cases e <;> first | exact hk _ _ hh | exact hh)
def onlyN (M : (Nat → Value) → World → Prop) : Exit → (Nat → Value) → World → Prop
  | .normal => M
  | _ => fun _ _ => False
theorem WP.via {c : Code} (M : (Nat → Value) → World → Prop) (h : WP P n c (onlyN M) ρ w) (hk : ∀ ρ' w', M ρ' w' → Q .normal ρ' w') : WP P n c Q ρ w :=
  h.mono fun e ρ' w' hh => by cases e <;> first | exact hk _ _ hh | exact (hh : False).elim
theorem thenQ_exit {M : (Nat → Value) → World → Prop} {id : Nat} (h : Q (.exit id) ρ w) : thenQ M Q (.exit id) ρ w := h
theorem blockQ_hit {id : Nat} (h : Q .normal ρ w) : blockQ id Q (.exit id) ρ w := by simp [blockQ, h]
theorem blockQ_pass {id id' : Nat} (hne : id' ≠ id) (h : Q (.exit id') ρ w) : blockQ id Q (.exit id') ρ w := by simp [blockQ, hne, h]

theorem res0 {fn : Func} {R : Value → World → Prop} (h : fn.results = #[]) (hR : R (.tuple #[]) w) : retQ P n fn R .ret ρ w := by
  refine ⟨.tuple #[], ?_, hR⟩
  simp [results, h]
theorem res1 {fn : Func} {R : Value → World → Prop} {t : Tmp} {v : Value} (h : fn.results = #[.tmp t]) (ht : t < n) (hv : ρ t = v) (hR : R v w) : retQ P n fn R .ret ρ w := by
  refine ⟨v, ?_, hR⟩
  simp [results, h, Fr, ht, hv]
theorem res2 {fn : Func} {R : Value → World → Prop} {t u : Tmp} {v v' : Value} (h : fn.results = #[.tmp t, .tmp u]) (ht : t < n) (hu : u < n) (hv : ρ t = v) (hv' : ρ u = v') (hR : R (.tuple #[v, v']) w) : retQ P n fn R .ret ρ w := by
  refine ⟨.tuple #[v, v'], ?_, hR⟩
  simp [results, h, Fr, ht, hu, hv, hv']
theorem res3 {fn : Func} {R : Value → World → Prop} {t u s : Tmp} {v v' v'' : Value} (h : fn.results = #[.tmp t, .tmp u, .tmp s]) (ht : t < n) (hu : u < n) (hs : s < n) (hv : ρ t = v) (hv' : ρ u = v') (hv'' : ρ s = v'') (hR : R (.tuple #[v, v', v'']) w) : retQ P n fn R .ret ρ w := by
  refine ⟨.tuple #[v, v', v''], ?_, hR⟩
  simp [results, h, Fr, ht, hu, hs, hv, hv', hv'']
theorem resC {fn : Func} {R : Value → World → Prop} {t : Tmp} {T : TypeId} {a : Addr} {v : Value} (h : fn.results = #[.cell t T]) (ht : t < n) (hv : ρ t = .pointer (some a)) (hl : (Instr.loadAt T (.pointer (some a))).run P w = .ok v w) (hR : R v w) : retQ P n fn R .ret ρ w := by
  refine ⟨v, ?_, hR⟩
  have hl' : (loadVar T a).run P w = .ok v w := by simpa [Instr.loadAt, Instr.sureAddr] using hl
  simp [results, h, Fr, ht, hv, asAddr, hl']
theorem resC1 {fn : Func} {R : Value → World → Prop} {t u : Tmp} {T : TypeId} {a : Addr} {v v' : Value} (h : fn.results = #[.cell t T, .tmp u]) (ht : t < n) (hu : u < n) (hv : ρ t = .pointer (some a)) (hl : (Instr.loadAt T (.pointer (some a))).run P w = .ok v w) (hv' : ρ u = v') (hR : R (.tuple #[v, v']) w) : retQ P n fn R .ret ρ w := by
  refine ⟨.tuple #[v, v'], ?_, hR⟩
  have hl' : (loadVar T a).run P w = .ok v w := by simpa [Instr.loadAt, Instr.sureAddr] using hl
  simp [results, h, Fr, ht, hu, hv, hv', asAddr, hl']
end

theorem Calls.start {P : Program} {n : Nat} {f : FuncId} {fn : Func} {c : Code} {args : List Value} {R : Value → World → Prop} {w : World}
    (hf : P.funcs[f]? = some fn) (hb : fn.body = some c) (hn : fn.ntmps = n) (hargs : args.length ≤ n)
    (h : ∀ ρ, (∀ i v, args[i]? = some v → ρ i = v) → WP P n c (retQ P n fn R) ρ w) : Calls P f args.toArray w fun e w' => ∃ v, e = .returned v ∧ R v w' :=
  Calls.of_WP hf hb hn hargs (h _ fun i v hv => by simp [hv])
end Go.PL
