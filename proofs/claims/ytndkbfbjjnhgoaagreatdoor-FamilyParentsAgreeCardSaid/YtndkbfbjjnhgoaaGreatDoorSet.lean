/- Stores into parts of variables and of slices of the call's own; calls that change a slice of the caller's own: for the program logic of Core. It holds for every program. -/
import Derived.Test.YtndkbfbjjnhgoaaGreatDoorFn
namespace Go.PL
open Go

/-- l with x in place i. -/
def setI {α : Type} (l : List α) (i : Int) (x : α) : List α := if 0 ≤ i then l.set i.toNat x else l
theorem length_setI {α : Type} (l : List α) (i : Int) (x : α) : (setI l i x).length = l.length := by unfold setI; split <;> simp
theorem flatMap_set {α : Type} {cells : α → List Value} {n : Nat} (hn : ∀ x, (cells x).length = n) (x : α) : ∀ (l : List α) (k : Nat), k < l.length →
    (l.flatMap cells).take (k * n) ++ cells x ++ (l.flatMap cells).drop (k * n + n) = (l.set k x).flatMap cells
  | [], k, h => by simp at h
  | y :: r, 0, _ => by
    have h0 : (cells y ++ r.flatMap cells).drop n = r.flatMap cells := by rw [← hn y, List.drop_left]
    simp [h0]
  | y :: r, k + 1, h => by
    have ih := flatMap_set hn x r k (by simpa using h)
    have e1 : (k + 1) * n = (cells y).length + k * n := by rw [hn, Nat.succ_mul, Nat.add_comm]
    rw [List.flatMap_cons, List.set_cons_succ, List.flatMap_cons, ← ih, e1, List.take_length_add_append, Nat.add_assoc, List.drop_length_add_append]
    simp
theorem flatMap_setI {α : Type} {cells : α → List Value} {n : Nat} (hn : ∀ x, (cells x).length = n) {l : List α} {i : Int} {x y : α} (h : getI l i = some y) {vs : List Value} (hvs : vs = cells x) :
    (l.flatMap cells).take (i.toNat * n) ++ vs ++ (l.flatMap cells).drop (i.toNat * n + vs.length) = (setI l i x).flatMap cells := by
  obtain ⟨h0, h1, _⟩ := getI_lt h
  subst hvs
  rw [hn, setI, if_pos h0]
  exact flatMap_set hn x l _ (by omega)

section
variable {P : Program} {w : World} {G : Nat → Prop} {ρ : Nat → Value} {F : List Fact} {p : Plan} {i : Nat}
theorem run_storeCells_add {a : Addr} : ∀ (vs : List Value) (k j : Nat), (storeCells (a.add k) vs j).run P w = (storeCells a vs (k + j)).run P w := by
  intro vs
  induction vs generalizing w with
  | nil => intro k j; simp [storeCells]
  | cons v r ih =>
    intro k j
    simp only [storeCells, Sem.run_bind, Deep.add_add]
    congr 1
    funext u w'
    rw [ih k (j + 1), Nat.add_assoc]
/-- A store into a part of a variable that is known. -/
theorem core_storePart {t : TypeId} {x y : Operand} {ty : TypeId} {ps : String} {af : Array Edge} {g : Option (Nat × Bool)} {dd b k : Nat} {T : TypeId} {a : Addr} {vs cs cs0 : List Value} {v : Value}
    (hF : F[i]? = some (dd, fun _ w' => Mb w' b T cs)) (hm : p.mu.contains i = true) (hG : ∀ x, x = b → G x)
    (hx : ev ρ x = .pointer (some a)) (ha : a = (⟨b, 0, none⟩ : Addr).add k) (hy : ev ρ y = v) (hM : Mb w b T cs0)
    (hst : ∀ (a : Addr) (w : World), (Instr.storeAt t (.pointer (some a)) v).run P w = (storeCells a vs).run P w) (hk : k + vs.length ≤ cs0.length) (hcs : cs0.take k ++ vs ++ cs0.drop (k + vs.length) = cs) (h1 : ∀ u ∈ vs, u.oneCell' = true) :
    Yield P ⟨none, .store t x y, ty, ps, af, g⟩ (ev ρ) w fun v w' => Ext (if p.mu.contains i then G else noG) w w' ∧ fact F i (putO ρ none v) w' := by
  obtain ⟨w', hr, hM', hE⟩ := run_storeCells (P := P) vs k cs0 w hM hk h1
  have hrun : (execOp (ev ρ) ⟨none, .store t x y, ty, ps, af, g⟩).run P w = .ok .skip w' := by
    have h2 := run_storeCells_add (P := P) (w := w) (a := (⟨b, 0, none⟩ : Addr)) vs k 0
    simp only [Nat.add_zero] at h2
    simp [execOp, hx, hy, hst, ha, h2, hr]
  unfold Yield
  rw [hrun, hm, if_pos rfl]
  refine ⟨hE.mono hG, ?_⟩
  unfold fact
  rw [hF]
  show Mb w' b T cs
  rw [← hcs]; exact hM'
/-- The block of a slice of the call's own, as a variable. -/
theorem Own.mb {α : Type} {B : Nat} {E : TypeId} {n : Nat} {cells : α → List Value} {v : Value} {l : List α} (h : Own B E n cells w v l) {a : Addr} {m c : Nat} (hv : v = .slice (some a) m c) :
    ∃ b o cur, a = ⟨b, o, none⟩ ∧ v.ownBlock = some b ∧ B ≤ b ∧ Mb w b E cur ∧ m = l.length ∧ m ≤ c ∧ c ≤ maxLen ∧ o + c * n ≤ cur.length ∧ (cur.drop o).take (l.length * n) = l.flatMap cells := by
  rcases h with ⟨h1, _⟩ | ⟨g, off, cap, cur, h1, hg, hh, hc, hm, hs, ht⟩
  · rw [h1] at hv; cases hv
  · rw [h1] at hv
    simp only [Value.slice.injEq, Option.some.injEq] at hv
    obtain ⟨rfl, rfl, rfl⟩ := hv
    refine ⟨g, off, cur.toList, rfl, by rw [h1]; rfl, hg, ?_, rfl, hc, hm, by simpa using hs, ht⟩
    simpa [Mb] using hh
/-- A store of an element, or of a part of one, into a slice of the call's own. -/
theorem core_storeOwn {α : Type} {B : Nat} {E : TypeId} {n off : Nat} {cells : α → List Value} {t : TypeId} {x y : Operand} {ty : TypeId} {ps : String} {af : Array Edge} {g : Option (Nat × Bool)} {dd m c : Nat} {a a0 : Addr} {vs : List Value} {v v0 : Value} {l : List α} {j : Int} {y0 y1 : α}
    (hF : F[i]? = some (dd, fun _ w' => Own B E n cells w' v0 (setI l j y1))) (hm : p.mu.contains i = true) (hG : ∀ b, v0.ownBlock = some b → G b)
    (hn : ∀ x, (cells x).length = n) (hx : ev ρ x = .pointer (some a)) (hv : v0 = .slice (some a0) m c) (ha : a = a0.add (j.toNat * n + off)) (hy : ev ρ y = v) (hO : Own B E n cells w v0 l) (hj : getI l j = some y0)
    (hst : ∀ (a : Addr) (w : World), (Instr.storeAt t (.pointer (some a)) v).run P w = (storeCells a vs).run P w) (hle : off + vs.length ≤ n) (hcs : (cells y0).take off ++ vs ++ (cells y0).drop (off + vs.length) = cells y1) (h1 : ∀ u ∈ vs, u.oneCell' = true) :
    Yield P ⟨none, .store t x y, ty, ps, af, g⟩ (ev ρ) w fun v w' => Ext (if p.mu.contains i then G else noG) w w' ∧ fact F i (putO ρ none v) w' := by
  obtain ⟨b, o, cur0, rfl, hob, hB, hM, hml, hmc, hcm, hlen0, htake⟩ := hO.mb hv
  obtain ⟨cur, hcur0⟩ : ∃ cur, cur = cur0.drop o := ⟨_, rfl⟩
  rw [← hcur0] at htake
  have hlen : c * n ≤ cur.length := by rw [hcur0, List.length_drop]; omega
  obtain ⟨h0, hlt, hget⟩ := getI_lt hj
  have hjn : j.toNat * n + n ≤ l.length * n := by
    rw [← Nat.succ_mul]; exact Nat.mul_le_mul_right n (by omega)
  have hln : l.length * n ≤ cur.length := Nat.le_trans (Nat.mul_le_mul_right n (by omega)) hlen
  have hcl : cur.length = cur0.length - o := by rw [hcur0, List.length_drop]
  have hopos : o + cur.length = cur0.length := by
    have : l.length * n + o ≤ cur0.length := by
      have := Nat.mul_le_mul_right n (show l.length ≤ c by omega)
      omega
    omega
  obtain ⟨w', hr, hM', hE⟩ := run_storeCells (P := P) vs (o + (j.toNat * n + off)) cur0 w hM (by omega) h1
  have hrun : (execOp (ev ρ) ⟨none, .store t x y, ty, ps, af, g⟩).run P w = .ok .skip w' := by
    have h2 := run_storeCells_add (P := P) (w := w) (a := (⟨b, 0, none⟩ : Addr)) vs (o + (j.toNat * n + off)) 0
    simp only [Nat.add_zero] at h2
    have h3 : (⟨b, o, none⟩ : Addr).add (j.toNat * n + off) = (⟨b, 0, none⟩ : Addr).add (o + (j.toNat * n + off)) := by rw [Addr.add_lit, Addr.add_lit, Nat.zero_add]
    simp [execOp, hx, hy, hst, ha, h3, h2, hr]
  unfold Yield
  rw [hrun, hm, if_pos rfl]
  refine ⟨hE.mono (fun c hc => hG c (by rw [hc]; exact hob)), ?_⟩
  unfold fact
  rw [hF]
  show Own B E n cells w' v0 (setI l j y1)
  have hcur : cur = l.flatMap cells ++ cur.drop (l.length * n) := by rw [← htake, List.take_append_drop]
  have hfl : (l.flatMap cells).length = l.length * n := length_flatMap hn l
  have key : cur.take (j.toNat * n + off) ++ vs ++ cur.drop (j.toNat * n + off + vs.length) = (setI l j y1).flatMap cells ++ cur.drop (l.length * n) := by
    have hset := flatMap_setI hn hj (x := y1) rfl
    rw [hn] at hset
    -- the element's own cells
    have hel : ((l.flatMap cells).drop (j.toNat * n)).take n = cells y0 := by
      have hsplit : ∀ (l : List α) (k : Nat), l[k]? = some y0 → ((l.flatMap cells).drop (k * n)).take n = cells y0 := by
        intro l
        induction l with
        | nil => intro k h; simp at h
        | cons z r ih =>
          intro k h
          cases k with
          | zero => simp at h; subst h; simp [← hn z]
          | succ k =>
            rw [List.flatMap_cons, Nat.succ_mul, Nat.add_comm, ← List.drop_drop, ← hn z, List.drop_left]
            have := ih k (by simpa using h)
            rw [← hn z] at this; exact this
      exact hsplit l _ hget
    have hmid : (l.flatMap cells).drop (j.toNat * n) = cells y0 ++ (l.flatMap cells).drop (j.toNat * n + n) := by
      rw [← hel, ← List.drop_drop, List.take_append_drop]
    have e1 : cur.take (j.toNat * n + off) = (l.flatMap cells).take (j.toNat * n) ++ (cells y0).take off := by
      conv => lhs; rw [hcur]
      rw [List.take_append_of_le_length (by omega)]
      rw [List.take_add, hmid, List.take_append_of_le_length (by rw [hn]; omega)]
    have e2 : cur.drop (j.toNat * n + off + vs.length) = (cells y0).drop (off + vs.length) ++ ((l.flatMap cells).drop (j.toNat * n + n) ++ cur.drop (l.length * n)) := by
      conv => lhs; rw [hcur]
      rw [List.drop_append_of_le_length (by omega), Nat.add_assoc, ← List.drop_drop, hmid, List.drop_append_of_le_length (by rw [hn]; omega), List.append_assoc]
    rw [e1, e2, ← hset, ← hcs]
    simp [List.append_assoc]
  have hdrop : (cur0.take (o + (j.toNat * n + off)) ++ vs ++ cur0.drop (o + (j.toNat * n + off) + vs.length)).drop o = cur.take (j.toNat * n + off) ++ vs ++ cur.drop (j.toNat * n + off + vs.length) := by
    have hlo : (cur0.take o).length = o := by rw [List.length_take]; omega
    rw [List.take_add, ← hcur0, Nat.add_assoc, ← List.drop_drop, ← hcur0, List.append_assoc, List.append_assoc]
    conv => lhs; arg 1; rw [← hlo]
    rw [List.drop_left, List.append_assoc]
  have hsl : (setI l j y1).length = l.length := length_setI l j y1
  refine .inr ⟨b, o, c, _, by rw [hv, hml, hsl], hB, hM', by omega, hcm, ?_, ?_⟩
  · simp only [List.size_toArray, List.length_append, List.length_take, List.length_drop]
    omega
  · show (List.drop o (_ : List Value)).take _ = _
    rw [List.toList_toArray, hdrop, key, hsl, ← hsl, ← length_flatMap hn, List.take_left]
/-- A call that changes a slice of the caller's own. -/
theorem core_callM {α : Type} {B : Nat} {E : TypeId} {n : Nat} {cells : α → List Value} {f : FuncId} {xs : Array Operand} {tys : Array TypeId} {ty : TypeId} {ps : String} {af : Array Edge} {g : Option (Nat × Bool)} {dd : Tmp} {v v0 : Value} {l : List α} {args : Array Value}
    (hF : F[i]? = some (dd, fun u w' => u = v ∧ Own B E n cells w' v0 l)) (hm : p.mu.contains i = true) (hG : ∀ b, v0.ownBlock = some b → G b) (hargs : xs.map (ev ρ) = args) (hcf : ∀ (args : Array Value) (w : World), (callFunc f args).run P w = .ok (.enter f args) w)
    (hc : Calls P f args w fun e w' => e = .returned v ∧ Ext (fun b => v0.ownBlock = some b) w w' ∧ Own B E n cells w' v0 l) :
    Yield P ⟨some dd, .call ⟨.value (.func f), xs, tys⟩, ty, ps, af, g⟩ (ev ρ) w fun v w' => Ext (if p.mu.contains i then G else noG) w w' ∧ fact F i (putO ρ (some dd) v) w' := by
  have hr : (execOp (ev ρ) ⟨some dd, .call ⟨.value (.func f), xs, tys⟩, ty, ps, af, g⟩).run P w = .ok (.enter f args) w := by
    simp [execOp, resolve, ev, Deferred.ofValue, invoke, hargs, hcf]
  unfold Yield
  rw [hr, hm, if_pos rfl]
  refine hc.mono (fun e w' ⟨he, hE, hO⟩ => ⟨v, he, hE.mono hG, ?_⟩)
  unfold fact
  rw [hF]
  exact ⟨upd_same _ _ _, hO⟩
end
theorem Own.rebase {α : Type} {B B' : Nat} {E : TypeId} {n : Nat} {cells : α → List Value} {w : World} {v : Value} {l : List α} (h : Own B E n cells w v l) (hB : ∀ b, v.ownBlock = some b → B' ≤ b) : Own B' E n cells w v l := by
  rcases h with h2 | ⟨g, off, cap, cur, hv, hg, r⟩
  · exact .inl h2
  · exact .inr ⟨g, off, cap, cur, hv, hB g (by rw [hv]; rfl), r⟩
theorem getI_setI_some {α : Type} {l : List α} {i j : Int} {x y : α} (h : getI l j = some y) : ∃ z, getI (setI l i x) j = some z := by
  obtain ⟨h0, h1, _⟩ := getI_lt h
  have : j.toNat < (setI l i x).length := by rw [length_setI]; omega
  exact ⟨_, by unfold getI; rw [if_pos h0]; exact List.getElem?_eq_getElem this⟩
theorem full_set {α : Type} {cells : α → List Value} {n : Nat} (hn : ∀ x, (cells x).length = n) {y x : α} {vs : List Value} (h : vs = cells x) : (cells y).take 0 ++ vs ++ (cells y).drop (0 + vs.length) = cells x := by
  subst h
  have : (cells y).drop (0 + (cells x).length) = [] := List.drop_eq_nil_of_le (by rw [hn, hn]; omega)
  rw [this]; simp
theorem arr_room {α : Type} {cells : α → List Value} {n : Nat} (hn : ∀ x, (cells x).length = n) {l : List α} {i : Int} {y : α} (h : getI l i = some y) {vs : List Value} (hvs : vs.length = n) : i.toNat * n + vs.length ≤ (l.flatMap cells).length := by
  obtain ⟨h0, h1, _⟩ := getI_lt h
  rw [length_flatMap hn, hvs, ← Nat.succ_mul]
  exact Nat.mul_le_mul_right n (by omega)
end Go.PL
