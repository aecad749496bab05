/- Guarded operations without a case for each way through the guards; shorter forms of the laws of a region. They hold for every program. -/
import Derived.Test.YtndkbfbjjnhgoaaGreatDoorSet
namespace Go.PL
open Go

/-- What a guarded slot holds: v where the condition holds, nothing else otherwise. -/
def gv (c : Bool) (v : Value) : Value := if c = true then v else undef
theorem gt {c : Bool} {x v : Value} (hc : c = true) (h : x = gv c v) : x = v := by rw [h, gv, if_pos hc]
theorem gr {c d : Bool} {x v : Value} (hc : c = true) (h : x = gv (c && d) v) : x = gv d v := by rw [h, hc, Bool.true_and]
theorem andL {a b : Bool} (h : (a && b) = true) : a = true := by cases a <;> simp_all

section
variable {ops : List Oper} {ρ : Nat → Value} {g dg : Nat} {e c0 : Bool}
theorem yT (hd : (ops[g]?).bind (·.dst) = some dg) (hu : ρ dg = .bool e) : yl ops ρ g = some true ↔ e = true := by
  unfold yl; rw [hd]; simp [hu]
theorem yF (hd : (ops[g]?).bind (·.dst) = some dg) (hu : ρ dg = .bool e) : yl ops ρ g = some false ↔ (!e) = true := by
  unfold yl; rw [hd]; simp [hu]
theorem yTG (hd : (ops[g]?).bind (·.dst) = some dg) (hu : ρ dg = gv c0 (.bool e)) : yl ops ρ g = some true ↔ (c0 && e) = true := by
  unfold yl; rw [hd]; cases c0 <;> simp [hu, gv, undef]
theorem yFG (hd : (ops[g]?).bind (·.dst) = some dg) (hu : ρ dg = gv c0 (.bool e)) : yl ops ρ g = some false ↔ (c0 && !e) = true := by
  unfold yl; rw [hd]; cases c0 <;> simp [hu, gv, undef]
end

section
variable {P : Program} {w : World} {G : Nat → Prop} {ops : List Oper} {ρ : Nat → Value} {F : List Fact} {p : Plan} {i : Nat} {o : Oper} {g dd : Nat} {want c : Bool} {v : Value}
theorem gIf (ho : o.dst = some dd) (hF : F[i]? = some (val dd (gv c v))) (hy : yl ops ρ g = some want ↔ c = true)
    (h : c = true → ∀ F' : List Fact, F'[i]? = some (val dd v) → Yield P o (ev ρ) w fun u w' => Ext (if p.mu.contains i then G else noG) w w' ∧ fact F' i (putO ρ o.dst u) w') :
    (yl ops ρ g = some want → Yield P o (ev ρ) w fun u w' => Ext (if p.mu.contains i then G else noG) w w' ∧ fact F i (putO ρ o.dst u) w') ∧ (yl ops ρ g ≠ some want → fact F i (putO ρ o.dst undef) w) := by
  refine ⟨fun hh => ?_, fun hh => ?_⟩
  · have hc := hy.1 hh
    refine (h hc (List.replicate (i + 1) (val dd v)) (by simp)).mono (fun u w' ⟨h1, h2⟩ => ⟨h1, ?_⟩)
    unfold fact at h2 ⊢
    rw [hF]
    rw [show (List.replicate (i + 1) (val dd v))[i]? = some (val dd v) by simp] at h2
    show putO ρ o.dst u dd = gv c v
    rw [gv, if_pos hc]
    exact h2
  · have hc : ¬ c = true := fun hc => hh (hy.2 hc)
    unfold fact
    rw [hF, ho]
    show upd ρ dd undef dd = gv c v
    rw [gv, if_neg hc]
    exact upd_same _ _ _
theorem gIfR {Φ : Value → World → Prop} (hF : F[i]? = some (dd, fun u w' => c = true → Φ u w')) (hy : yl ops ρ g = some want ↔ c = true)
    (h : c = true → ∀ F' : List Fact, F'[i]? = some (dd, Φ) → Yield P o (ev ρ) w fun u w' => Ext (if p.mu.contains i then G else noG) w w' ∧ fact F' i (putO ρ o.dst u) w') :
    (yl ops ρ g = some want → Yield P o (ev ρ) w fun u w' => Ext (if p.mu.contains i then G else noG) w w' ∧ fact F i (putO ρ o.dst u) w') ∧ (yl ops ρ g ≠ some want → fact F i (putO ρ o.dst undef) w) := by
  refine ⟨fun hh => ?_, fun hh => ?_⟩
  · have hc := hy.1 hh
    refine (h hc (List.replicate (i + 1) (dd, Φ)) (by simp)).mono (fun u w' ⟨h1, h2⟩ => ⟨h1, ?_⟩)
    unfold fact at h2 ⊢
    rw [hF]
    rw [show (List.replicate (i + 1) (dd, Φ))[i]? = some (dd, Φ) by simp] at h2
    exact fun _ => h2
  · have hc : ¬ c = true := fun hc => hh (hy.2 hc)
    unfold fact
    rw [hF]
    exact fun h => absurd h hc
theorem stabI {Φ : Value → World → Prop} (h : Stable G (dd, Φ)) : Stable G (dd, fun u w' => c = true → Φ u w') := fun v w w' hE hh hc => h v w w' hE (hh hc)
end
section
variable {P : Program} {η : Operand → Value} {w : World} {d : Option Tmp} {ty : TypeId} {ps : String} {af : Array Edge} {g : Option (Nat × Bool)} {x y z : Operand} {e q : Bool}
theorem o_pick_and (hx : η x = .bool e) (hy : η y = gv e (.bool q)) (hz : η z = .bool false) : YV P η w ⟨d, .pick x y z, ty, ps, af, g⟩ (.bool (e && q)) := by
  cases e <;> simp [YV, execOp, hx, hy, hz, asBool, gv]
theorem o_pick_or (hx : η x = .bool e) (hy : η y = .bool true) (hz : η z = gv (!e) (.bool q)) : YV P η w ⟨d, .pick x y z, ty, ps, af, g⟩ (.bool (e || q)) := by
  cases e <;> simp [YV, execOp, hx, hy, hz, asBool, gv]
theorem o_pick_andU (hx : η x = .bool e) (hy : η y = .bool q) (hz : η z = .bool false) : YV P η w ⟨d, .pick x y z, ty, ps, af, g⟩ (.bool (e && q)) := by
  cases e <;> simp [YV, execOp, hx, hy, hz, asBool]
theorem o_pick_orU (hx : η x = .bool e) (hy : η y = .bool true) (hz : η z = .bool q) : YV P η w ⟨d, .pick x y z, ty, ps, af, g⟩ (.bool (e || q)) := by
  cases e <;> simp [YV, execOp, hx, hy, hz, asBool]
end

/-! ### binds under a condition -/
section
variable {α : Type} [Inhabited α] {b c q p : Bool} {o : Option α} {f : α → Option Bool}
theorem orB (h : (if b = true then some true else Option.bind o f) = some c) : ∃ z, ((!b) = true → o = some z) ∧ (if b = true then some true else f z) = some c := by
  cases b with
  | true => exact ⟨default, fun h => absurd h (by decide), by simpa using h⟩
  | false =>
    obtain ⟨z, h1, h2⟩ := obind (show o.bind f = some c by simpa using h)
    exact ⟨z, fun _ => h1, by simpa using h2⟩
theorem andB (h : (if b = true then Option.bind o f else some false) = some c) : ∃ z, (b = true → o = some z) ∧ (if b = true then f z else some false) = some c := by
  cases b with
  | false => exact ⟨default, fun h => absurd h (by decide), by simpa using h⟩
  | true =>
    obtain ⟨z, h1, h2⟩ := obind (show o.bind f = some c by simpa using h)
    exact ⟨z, fun _ => h1, by simpa using h2⟩
theorem orBI (h : p = true → (if b = true then some true else Option.bind o f) = some c) : ∃ z, ((p && !b) = true → o = some z) ∧ (p = true → (if b = true then some true else f z) = some c) := by
  cases p with
  | false => exact ⟨default, fun h => absurd h (by simp), fun h => absurd h (by decide)⟩
  | true => obtain ⟨z, h1, h2⟩ := orB (h rfl); exact ⟨z, fun hh => h1 (by simpa using hh), fun _ => h2⟩
theorem andBI (h : p = true → (if b = true then Option.bind o f else some false) = some c) : ∃ z, ((p && b) = true → o = some z) ∧ (p = true → (if b = true then f z else some false) = some c) := by
  cases p with
  | false => exact ⟨default, fun h => absurd h (by simp), fun h => absurd h (by decide)⟩
  | true => obtain ⟨z, h1, h2⟩ := andB (h rfl); exact ⟨z, fun hh => h1 (by simpa using hh), fun _ => h2⟩
end
section
variable {b c q p : Bool}
theorem orE (h : (if b = true then some true else some q) = some c) : (b || q) = c := by cases b <;> simpa using h
theorem andE (h : (if b = true then some q else some false) = some c) : (b && q) = c := by cases b <;> simpa using h
theorem orEI (h : p = true → (if b = true then some true else some q) = some c) (hp : p = true) : (b || q) = c := orE (h hp)
theorem andEI (h : p = true → (if b = true then some q else some false) = some c) (hp : p = true) : (b && q) = c := andE (h hp)
end
theorem RepSl.getFI {α : Type} {n : Nat} {cells : α → List Value} {hn : ∀ x, (cells x).length = n} {G : Nat → Prop} {w : World} {v : Value} {l : List α} {p : Bool} (h : RepSl (TyR.flat n cells hn) G w v l) {i : Int} {x : α} (hx : p = true → getI l i = some x) :
    ∃ a cap, (p = true → v = .slice (some a) l.length cap) ∧ (p = true → 0 ≤ i ∧ i < (l.length : Int)) ∧ (p = true → At w (a.add (i.toNat * n)) (cells x)) := by
  cases p with
  | false => exact ⟨⟨0, 0, none⟩, 0, fun h => absurd h (by decide), fun h => absurd h (by decide), fun h => absurd h (by decide)⟩
  | true =>
    obtain ⟨a, cap, h1, h2, h3⟩ := h.getF (hx rfl)
    exact ⟨a, cap, fun _ => h1, fun _ => h2, fun _ => h3⟩

/-! ### shorter forms -/
theorem sV {G : Nat → Prop} {t : Nat} {v : Value} : Stable G (val t v) := fun _ _ _ _ h => h
theorem sA {G : Nat → Prop} {t : Nat} : Stable G (anyF t) := fun _ _ _ _ h => h
def vals (l : List (Nat × Value)) : List Fact := l.map fun p => val p.1 p.2
theorem vals_stable {G : Nat → Prop} {p : Plan} : ∀ (l : List (Nat × Value)) (k : Nat), StablesO G p k (vals l)
  | [], _ => trivial
  | _ :: r, k => ⟨sV, vals_stable r (k + 1)⟩
section
variable {P : Program} {ops : List Oper} {n : Nat} {Q : Exit → (Nat → Value) → World → Prop} {ρ : Nat → Value} {w : World} {id : Nat} {draw : Bool}
/-- A region that changes no old memory. -/
theorem WP.rg (hm : P.follows .mixedOrders = true) (B U E : List (List Nat)) (F : List Fact) (hok : (Plan.plain B U E [] []).ok ops n (F.map (·.1)) = true) (hst : StablesO noG (.plain B U E [] []) 0 F)
    (hobs : ObsO P ops noG ρ w F (.plain B U E [] []) 0 ops)
    (hQ : ∀ ρ' w', Ext noG w w' → (∀ i, decide (i < ops.length) = true → fact F i ρ' w') → (∀ t, (ops.all fun o => o.dst != some t) = true → ρ' t = ρ t) → Q .normal ρ' w') : WP P n (.region id ops.toArray draw) Q ρ w :=
  WP.region hm B U E [] [] F noG hok hst hobs fun ρ' w' _ hN hf hr => hQ ρ' w' (hN rfl) (fun i hi => hf i (by simpa [Plan.plain, Plan.dies] using hi)) hr
/-- A region whose operations each leave a known value. -/
theorem WP.rv (hm : P.follows .mixedOrders = true) (B U E : List (List Nat)) (L : List (Nat × Value)) (hok : (Plan.plain B U E [] []).ok ops n ((vals L).map (·.1)) = true)
    (hobs : ObsO P ops noG ρ w (vals L) (.plain B U E [] []) 0 ops)
    (hQ : ∀ ρ' w', Ext noG w w' → (∀ i, decide (i < ops.length) = true → fact (vals L) i ρ' w') → (∀ t, (ops.all fun o => o.dst != some t) = true → ρ' t = ρ t) → Q .normal ρ' w') : WP P n (.region id ops.toArray draw) Q ρ w :=
  WP.rg hm B U E (vals L) hok (vals_stable L 0) hobs hQ
theorem WP.rb (hm : P.follows .mixedOrders = true) (B E : List (List Nat)) (L : List (Nat × Value)) (hok : (Plan.plain B B E [] []).ok ops n ((vals L).map (·.1)) = true)
    (hobs : ObsO P ops noG ρ w (vals L) (.plain B B E [] []) 0 ops)
    (hQ : ∀ ρ' w', Ext noG w w' → (∀ i, decide (i < ops.length) = true → fact (vals L) i ρ' w') → (∀ t, (ops.all fun o => o.dst != some t) = true → ρ' t = ρ t) → Q .normal ρ' w') : WP P n (.region id ops.toArray draw) Q ρ w :=
  WP.rv hm B B E L hok hobs hQ
end
section
variable {ops : List Oper} {ρ ρ' : Nat → Value} {a b c d e f : Nat} {va vb vc vd ve vf : Value}
theorem k2 (hr : ∀ t, (ops.all fun o => o.dst != some t) = true → ρ' t = ρ t) (ha : ρ a = va) (hb : ρ b = vb) (h : ([a, b].all fun t => ops.all fun o => o.dst != some t) = true) : ρ' a = va ∧ ρ' b = vb := by
  simp only [List.all_cons, List.all_nil, Bool.and_true, Bool.and_eq_true] at h
  exact ⟨(hr a h.1).trans ha, (hr b h.2).trans hb⟩
theorem k3 (hr : ∀ t, (ops.all fun o => o.dst != some t) = true → ρ' t = ρ t) (ha : ρ a = va) (hb : ρ b = vb) (hc : ρ c = vc) (h : ([a, b, c].all fun t => ops.all fun o => o.dst != some t) = true) : ρ' a = va ∧ ρ' b = vb ∧ ρ' c = vc := by
  rw [List.all_cons, Bool.and_eq_true] at h
  exact ⟨(hr a h.1).trans ha, k2 hr hb hc h.2⟩
theorem k4 (hr : ∀ t, (ops.all fun o => o.dst != some t) = true → ρ' t = ρ t) (ha : ρ a = va) (hb : ρ b = vb) (hc : ρ c = vc) (hd : ρ d = vd) (h : ([a, b, c, d].all fun t => ops.all fun o => o.dst != some t) = true) : ρ' a = va ∧ ρ' b = vb ∧ ρ' c = vc ∧ ρ' d = vd := by
  rw [List.all_cons, Bool.and_eq_true] at h
  exact ⟨(hr a h.1).trans ha, k3 hr hb hc hd h.2⟩
theorem k5 (hr : ∀ t, (ops.all fun o => o.dst != some t) = true → ρ' t = ρ t) (ha : ρ a = va) (hb : ρ b = vb) (hc : ρ c = vc) (hd : ρ d = vd) (he : ρ e = ve) (h : ([a, b, c, d, e].all fun t => ops.all fun o => o.dst != some t) = true) : ρ' a = va ∧ ρ' b = vb ∧ ρ' c = vc ∧ ρ' d = vd ∧ ρ' e = ve := by
  rw [List.all_cons, Bool.and_eq_true] at h
  exact ⟨(hr a h.1).trans ha, k4 hr hb hc hd he h.2⟩
theorem k6 (hr : ∀ t, (ops.all fun o => o.dst != some t) = true → ρ' t = ρ t) (ha : ρ a = va) (hb : ρ b = vb) (hc : ρ c = vc) (hd : ρ d = vd) (he : ρ e = ve) (hf : ρ f = vf) (h : ([a, b, c, d, e, f].all fun t => ops.all fun o => o.dst != some t) = true) : ρ' a = va ∧ ρ' b = vb ∧ ρ' c = vc ∧ ρ' d = vd ∧ ρ' e = ve ∧ ρ' f = vf := by
  rw [List.all_cons, Bool.and_eq_true] at h
  exact ⟨(hr a h.1).trans ha, k5 hr hb hc hd he hf h.2⟩
end
end Go.PL
