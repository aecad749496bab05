/- Strings, and structs that hold slices. They hold for every program. -/
import Derived.Test.YtndkbfbjjnhgoaaGreatDoorGuard
namespace Go.PL
open Go

def strR : TyR ByteArray := TyR.flat 1 (fun x => [.string x]) (fun _ => rfl)
def catI (a b : ByteArray) : Option ByteArray := if (a.size + b.size : Nat) ≤ 9223372036854775807 then some (a ++ b) else none
section
variable {P : Program} {η : Operand → Value} {w : World} {d : Option Tmp} {ty : TypeId} {ps : String} {af : Array Edge} {g : Option (Nat × Bool)} {x y : Operand} {t t' : TypeId} {a b c : ByteArray} {q : Bool}
theorem o_eqlT (hx : η x = .string a) (hy : η y = .string b) (h : (a.toList == b.toList) = q) : YV P η w ⟨d, .binOp .eql t x y t', ty, ps, af, g⟩ (.bool q) := by
  subst h; simp [YV, execOp, hx, hy, eqGuard, binOp, Op.stringOp]
theorem o_neqT (hx : η x = .string a) (hy : η y = .string b) (h : (a.toList != b.toList) = q) : YV P η w ⟨d, .binOp .neq t x y t', ty, ps, af, g⟩ (.bool q) := by
  subst h; simp [YV, execOp, hx, hy, eqGuard, binOp, Op.stringOp, bne]
theorem o_addT (hx : η x = .string a) (hy : η y = .string b) (h : catI a b = some c) : YV P η w ⟨d, .binOp .add t x y t', ty, ps, af, g⟩ (.string c) := by
  unfold catI at h
  split at h
  · rename_i hs
    cases h
    have : ¬ (((a.size + b.size : Nat) : Int) > IntKind.i64.max) := by
      have e : IntKind.i64.max = 9223372036854775807 := by decide
      rw [e]; omega
    simp [YV, execOp, hx, hy, eqGuard, binOp, Op.stringOp]
    simp at this
    exact this
  · cases h
end
theorem one_nil : ∀ u ∈ ([] : List Value), u.oneCell' = true := fun _ h => by cases h
theorem one_cons {v : Value} {r : List Value} (h : v.oneCell' = true) (hr : ∀ u ∈ r, u.oneCell' = true) : ∀ u ∈ v :: r, u.oneCell' = true := by
  intro u hu
  rcases List.mem_cons.1 hu with h1 | h1
  · rw [h1]; exact h
  · exact hr u h1

/-- A call that takes over a slice of the caller's own and hands it back, changed. -/
theorem core_callC {P : Program} {w : World} {G : Nat → Prop} {ρ : Nat → Value} {F : List Fact} {p : Plan} {i : Nat} {f : FuncId} {xs : Array Operand} {tys : Array TypeId} {ty : TypeId} {ps : String} {af : Array Edge} {g : Option (Nat × Bool)} {dd : Tmp} {v0 : Value} {args : Array Value} {Φ : Value → World → Prop}
    (hF : F[i]? = some (dd, Φ)) (hm : p.mu.contains i = true) (hG : ∀ b, v0.ownBlock = some b → G b) (hargs : xs.map (ev ρ) = args) (hcf : ∀ (args : Array Value) (w : World), (callFunc f args).run P w = .ok (.enter f args) w)
    (hc : Calls P f args w fun e w' => ∃ v, e = .returned v ∧ Ext (fun b => v0.ownBlock = some b) w w' ∧ Φ v w') :
    Yield P ⟨some dd, .call ⟨.value (.func f), xs, tys⟩, ty, ps, af, g⟩ (ev ρ) w fun v w' => Ext (if p.mu.contains i then G else noG) w w' ∧ fact F i (putO ρ (some dd) v) w' := by
  have hr : (execOp (ev ρ) ⟨some dd, .call ⟨.value (.func f), xs, tys⟩, ty, ps, af, g⟩).run P w = .ok (.enter f args) w := by
    simp [execOp, resolve, ev, Deferred.ofValue, invoke, hargs, hcf]
  unfold Yield
  rw [hr]
  refine hc.mono (fun e w' ⟨v, he, hE, hΦ⟩ => ⟨v, he, ?_, ?_⟩)
  · rw [hm, if_pos rfl]; exact hE.mono hG
  · unfold fact
    rw [hF]
    show Φ (upd ρ dd v dd) w'
    rw [upd_same]
    exact hΦ
/-! ### moves; known values -/
section
variable {P : Program} {ops : List Oper} {G : Nat → Prop} {ρ0 : Nat → Value} {w0 : World} {F : List Fact} {p : Plan} {i d x j : Nat} {v : Value} {ty : TypeId} {ps : String} {af : Array Edge} {y : Operand}
theorem mE (hF : F[i]? = some (val d v)) (hE : p.e i = [x]) (h : ρ0 x = v) : ObO P ops G ρ0 w0 F p i ⟨some d, .move (.tmp x), ty, ps, af, none⟩ := by
  intro ρ w _ _ e _
  rw [hE] at e
  exact core_val rfl hF (o_move (e.1.trans h))
theorem aE (hF : F[i]? = some (val d v)) (hE : p.e i = [x]) (h : ρ0 x = v) : ObO P ops G ρ0 w0 F p i ⟨some d, .assign (.tmp x), ty, ps, af, none⟩ := by
  intro ρ w _ _ e _
  rw [hE] at e
  exact core_val rfl hF (o_assign (e.1.trans h))
theorem mU (hF : F[i]? = some (val d v)) (hU : p.u i = [j]) (hj : F[j]? = some (val x v)) : ObO P ops G ρ0 w0 F p i ⟨some d, .move (.tmp x), ty, ps, af, none⟩ := by
  intro ρ w _ _ _ u
  rw [hU] at u
  have u : fact F j ρ w := u.1
  unfold fact at u
  rw [hj] at u
  exact core_val rfl hF (o_move u)
theorem aU (hF : F[i]? = some (val d v)) (hU : p.u i = [j]) (hj : F[j]? = some (val x v)) : ObO P ops G ρ0 w0 F p i ⟨some d, .assign (.tmp x), ty, ps, af, none⟩ := by
  intro ρ w _ _ _ u
  rw [hU] at u
  have u : fact F j ρ w := u.1
  unfold fact at u
  rw [hj] at u
  exact core_val rfl hF (o_assign u)
theorem mC (hF : F[i]? = some (val d v)) (h : ev ρ0 y = v) (hc : ∀ ρ, ev ρ y = ev ρ0 y) : ObO P ops G ρ0 w0 F p i ⟨some d, .move y, ty, ps, af, none⟩ := by
  intro ρ w _ _ _ _
  exact core_val rfl hF (o_move ((hc ρ).trans h))
theorem aC (hF : F[i]? = some (val d v)) (h : ev ρ0 y = v) (hc : ∀ ρ, ev ρ y = ev ρ0 y) : ObO P ops G ρ0 w0 F p i ⟨some d, .assign y, ty, ps, af, none⟩ := by
  intro ρ w _ _ _ _
  exact core_val rfl hF (o_assign ((hc ρ).trans h))
theorem hv {L : List (Nat × Value)} {n : Nat} {ρ : Nat → Value} {w : World} (hf : ∀ i, decide (i < n) = true → fact (vals L) i ρ w) (i : Nat) (h : decide (i < n) = true) {t : Nat} {v : Value} (hL : L[i]? = some (t, v)) : ρ t = v := by
  have := hf i h
  unfold fact vals at this
  rw [List.getElem?_map, hL] at this
  exact this
end
section
variable {P : Program} {n : Nat} {ρ : Nat → Value} {w : World}
theorem res4 {fn : Func} {R : Value → World → Prop} {t u s q : Tmp} {v v' v'' v3 : Value} (h : fn.results = #[.tmp t, .tmp u, .tmp s, .tmp q]) (ht : t < n) (hu : u < n) (hs : s < n) (hq : q < n) (hv : ρ t = v) (hv' : ρ u = v') (hv'' : ρ s = v'') (hv3 : ρ q = v3) (hR : R (.tuple #[v, v', v'', v3]) w) : retQ P n fn R .ret ρ w := by
  refine ⟨.tuple #[v, v', v'', v3], ?_, hR⟩
  simp [results, h, Fr, ht, hu, hs, hq, hv, hv', hv'', hv3]
end
section
variable {P : Program} {η : Operand → Value} {w : World} {d : Option Tmp} {ty : TypeId} {ps : String} {af : Array Edge} {g : Option (Nat × Bool)} {x : Operand} {v : Value} {a : Addr} {i : Nat} {r : List (Nat × Operand)} {r' : List (Nat × Value)}
theorem o_nilCheck (hx : η x = .pointer (some a)) : YV P η w ⟨d, .nilCheck x, ty, ps, af, g⟩ (.pointer (some a)) := by
  simp [YV, execOp, hx]
theorem bp0 : ((([] : List (Nat × Operand)).toArray).map fun (i, x) => (i, η x)) = ([] : List (Nat × Value)).toArray := by simp
theorem bpS (h : η x = v) (hr : (r.toArray.map fun (i, x) => (i, η x)) = r'.toArray) : (((i, x) :: r).toArray.map fun (i, x) => (i, η x)) = ((i, v) :: r').toArray := by
  simp at hr ⊢
  exact ⟨h, hr⟩
end
theorem RepSl.shp {α : Type} {R : TyR α} {G : Nat → Prop} {w : World} {v : Value} {l : List α} (h : RepSl R G w v l) : ∃ a n c, v = Value.slice a n c := by
  obtain ⟨a, c, h1, _⟩ := h.shape
  exact ⟨a, _, c, h1⟩
/-- A new variable of which a relation is known. -/
theorem core_newR {P : Program} {w : World} {G : Nat → Prop} {ρ : Nat → Value} {F : List Fact} {p : Plan} {i : Nat} {o : Oper} {dd : Tmp} {T : TypeId} {cs : List Value} {w0 : World} {Φ : Value → World → Prop} (hd : o.dst = some dd) (hF : F[i]? = some (dd, Φ))
    (h0 : Ext G w0 w) (h : (execOp (ev ρ) o).run P w = .ok (.value (.pointer (some ⟨w.heap.size, 0, none⟩))) (w.alloc (.cells cs.toArray T)))
    (hΦ : ∀ w', Ext noG w w' → w0.heap.size ≤ w.heap.size → Mb w' w.heap.size T cs → Φ (.pointer (some ⟨w.heap.size, 0, none⟩)) w') :
    Yield P o (ev ρ) w fun v w' => Ext (if p.mu.contains i then G else noG) w w' ∧ fact F i (putO ρ o.dst v) w' := by
  unfold Yield
  rw [h]
  refine ⟨Ext.alloc _ _ _, ?_⟩
  unfold fact
  rw [hF, hd]
  show Φ (upd ρ dd _ dd) _
  rw [upd_same]
  exact hΦ _ (Ext.alloc _ _ _) h0.size (Mb.alloc w T cs)
end Go.PL
