/- The end of a slice of the call's own, as a slice by itself; its clearing; the front of such a slice. They hold for every program. -/
import Derived.Test.YtndkbfbjjnhgoaaGreatDoorStr
set_option linter.unusedVariables false
namespace Go.PL
open Go

/-- u is the part of v from element lo on, len elements long. -/
def ViewR (u v : Value) (n : Nat) (lo : Int) (len : Nat) : Prop := ∃ (a : Option Addr) (L c : Nat) (a' : Option Addr) (c' : Nat), v = .slice a L c ∧ 0 ≤ lo ∧ lo.toNat + len = L ∧ u = .slice a' len c' ∧ (0 < len → ∃ b, a = some b ∧ a' = some (b.add (lo.toNat * n)))
theorem ViewR.shape {u v : Value} {n : Nat} {lo : Int} {len : Nat} (h : ViewR u v n lo len) : ∃ a c, u = .slice a len c := by
  obtain ⟨_, _, _, a', c', _, _, _, h1, _⟩ := h
  exact ⟨a', c', h1⟩
/-- Element i of the part from lo on. -/
def viewI {α : Type} (l : List α) (lo i : Int) : Option α := if 0 ≤ i then getI l (lo + i) else none
theorem ViewR.getF {α : Type} {B : Nat} {E : TypeId} {n : Nat} {cells : α → List Value} {hn : ∀ x, (cells x).length = n} {w : World} {u v : Value} {l : List α} {lo : Int} {len : Nat} (h : ViewR u v n lo len) (hO : Own B E n cells w v l) {i : Int} {x : α} (hx : viewI l lo i = some x) :
    ∃ a cap, u = .slice (some a) len cap ∧ (0 ≤ i ∧ i < (len : Int)) ∧ At w (a.add (i.toNat * n)) (cells x) := by
  unfold viewI at hx
  split at hx
  · rename_i h0
    obtain ⟨a, L, c, a', c', hv, hlo, hL, hu, hp⟩ := h
    obtain ⟨h1, h2, h3⟩ := getI_lt hx
    obtain ⟨b, cap, hv2, hi2, hA⟩ := RepSl.getF (Own.rep (hn := hn) (G := noG) hO (fun _ _ h => h)) hx
    rw [hv] at hv2
    simp only [Value.slice.injEq] at hv2
    obtain ⟨rfl, rfl, rfl⟩ := hv2
    have hlt : i < (len : Int) := by omega
    obtain ⟨b', hb, ha'⟩ := hp (by omega)
    cases hb
    refine ⟨b.add (lo.toNat * n), c', by rw [hu, ha'], ⟨h0, hlt⟩, ?_⟩
    rw [Deep.add_add, ← Nat.add_mul]
    have : (lo + i).toNat = lo.toNat + i.toNat := by omega
    rwa [this] at hA
  · cases hx
section
variable {P : Program} {w : World} {G : Nat → Prop} {ρ : Nat → Value} {F : List Fact} {p : Plan} {i : Nat} {α : Type} {B : Nat} {E : TypeId} {n : Nat} {cells : α → List Value} {v : Value} {l r : List α} {t : TypeId} {x lo hi : Operand} {a b : Int}
  {ty : TypeId} {ps : String} {af : Array Edge} {g : Option (Nat × Bool)} {dd : Tmp} {Φ : Value → World → Prop}
/-- s[lo:] of a slice of the call's own. -/
theorem core_view (hF : F[i]? = some (dd, Φ)) (hx : ev ρ x = v) (ht : P.underlying t = some (.slice E)) (he : (P.info? E).map (·.size) = some n) (hO : Own B E n cells w v l) (hlo : ev ρ lo = .int .i64 a) (hs : sliceI l a (l.length : Int) = some r) (hΦ : ∀ u, ViewR u v n a r.length → Φ u w) :
    Yield P ⟨some dd, .slice t x (some lo) none none, ty, ps, af, g⟩ (ev ρ) w fun v w' => Ext (if p.mu.contains i then G else noG) w w' ∧ fact F i (putO ρ (some dd) v) w' := by
  obtain ⟨ad, cap, hv, hcap, _⟩ := hO.shape
  obtain ⟨h0, h1, h2, hr⟩ := sliceI_some hs
  have hlen : r.length = l.length - a.toNat := by rw [hr, List.length_take, List.length_drop]; omega
  cases hinfo : P.info? E with
  | none => simp [hinfo] at he
  | some q =>
    simp only [hinfo, Option.map_some, Option.some.injEq] at he
    have hrun : (Instr.sliceAt t v (some (.int .i64 a)) none none).run P w = .ok (.slice (if cap = a.toNat then ad else ad.map (·.add (a.toNat * n))) (l.length - a.toNat) (cap - a.toNat)) w := by
      subst hv
      have hij : (0 ≤ a ∧ a ≤ (l.length : Int)) := ⟨h0, h1⟩
      simp [Instr.sliceAt, Instr.slice, run_underlying ht, Instr.sliceBounds, Instr.sliceBound, asIntOf, hij, sizeOf, typeInfo, hinfo, he]
    have hview : ViewR (.slice (if cap = a.toNat then ad else ad.map (·.add (a.toNat * n))) (l.length - a.toNat) (cap - a.toNat)) v n a r.length := by
      refine ⟨ad, l.length, cap, _, _, hv, h0, by omega, by rw [hlen], fun hp => ?_⟩
      have hne : ¬ cap = a.toNat := by omega
      rw [if_neg hne]
      cases ad with
      | none =>
        rcases hO with ⟨h5, h6⟩ | ⟨g', off', cap', cur, h5, _⟩
        · rw [h6, List.length_nil] at hlen; omega
        · rw [hv] at h5; cases h5
      | some ad => exact ⟨ad, rfl, rfl⟩
    refine core_copy rfl hF ?_ (hΦ _ hview)
    simp only [YV, execOp, hx, hlo, Option.map_some, Option.map_none, Sem.run_bind, hrun, Result.andThen_ok, Sem.run_pure]
/-- s[:hi] of a slice of the call's own. -/
theorem core_prefix (hF : F[i]? = some (dd, Φ)) (hn : ∀ x, (cells x).length = n) (hx : ev ρ x = v) (ht : P.underlying t = some (.slice E)) (he : (P.info? E).map (·.size) = some n) (hO : Own B E n cells w v l) (hhi : ev ρ hi = .int .i64 b) (hs : sliceI l 0 b = some r) (hΦ : ∀ u, Own B E n cells w u r ∧ (∀ k, u.ownBlock = some k → v.ownBlock = some k) → Φ u w) :
    Yield P ⟨some dd, .slice t x none (some hi) none, ty, ps, af, g⟩ (ev ρ) w fun v w' => Ext (if p.mu.contains i then G else noG) w w' ∧ fact F i (putO ρ (some dd) v) w' := by
  obtain ⟨h0, h1, h2, hr⟩ := sliceI_some hs
  have hr : r = l.take b.toNat := by rw [hr]; simp
  have hlen : r.length = b.toNat := by rw [hr, List.length_take]; omega
  cases hinfo : P.info? E with
  | none => simp [hinfo] at he
  | some q =>
    simp only [hinfo, Option.map_some, Option.some.injEq] at he
    rcases hO with ⟨hv, hl⟩ | ⟨gb, off, cap, cur, hv, hg, hh, hc, hm, hsz, htk⟩
    · have hb0 : b = 0 := by rw [hl] at h2; simp at h2; omega
      subst hb0
      refine core_copy (v := .slice none 0 0) rfl hF ?_ (hΦ _ ⟨?_, fun k hk => by simp [Value.ownBlock] at hk⟩)
      · subst hv
        simp [YV, execOp, hx, hhi, Instr.sliceAt, Instr.slice, run_underlying ht, Instr.sliceBounds, Instr.sliceBound, asIntOf, sizeOf, typeInfo, hinfo]
      · have : r = [] := List.length_eq_zero_iff.1 (by rw [hlen]; rfl)
        rw [this]; exact Own.nil _ _ _ _ _
    · have hbc : (0 ≤ b ∧ b ≤ (cap : Int)) := by omega
      refine core_copy (v := .slice (some ⟨gb, off, none⟩) b.toNat cap) rfl hF ?_ (hΦ _ ⟨.inr ⟨gb, off, cap, cur, by rw [hlen], hg, hh, by omega, hm, hsz, ?_⟩, fun k hk => by rw [hv]; exact hk⟩)
      · subst hv
        have had : (⟨gb, off, none⟩ : Addr).add 0 = ⟨gb, off, none⟩ := by rw [Addr.add_lit]; rfl
        simp [YV, execOp, hx, hhi, Instr.sliceAt, Instr.slice, run_underlying ht, Instr.sliceBounds, Instr.sliceBound, asIntOf, hbc, sizeOf, typeInfo, hinfo, had]
      · have h5 : (cur.toList.drop off).take (l.length * n) = l.flatMap cells := htk
        show (cur.toList.drop off).take (r.length * n) = r.flatMap cells
        have h6 : (cur.toList.drop off).take (r.length * n) = ((cur.toList.drop off).take (l.length * n)).take (r.length * n) := by
          rw [List.take_take, Nat.min_eq_left (Nat.mul_le_mul_right n (by omega))]
        rw [h6, h5, hr]
        have key : ∀ (l : List α) (k : Nat), (l.flatMap cells).take ((l.take k).length * n) = (l.take k).flatMap cells := by
          intro l
          induction l with
          | nil => intro k; simp
          | cons y l ih =>
            intro k
            cases k with
            | zero => simp
            | succ k =>
              rw [List.take_succ_cons, List.flatMap_cons, List.flatMap_cons, List.length_cons, Nat.succ_mul, Nat.add_comm, ← hn y, List.take_length_add_append, hn y, ih k]
        exact key l b.toNat
theorem flatMap_drop (hn : ∀ x, (cells x).length = n) : ∀ (l : List α) (k : Nat), (l.flatMap cells).drop (k * n) = (l.drop k).flatMap cells
  | [], k => by simp
  | y :: l, 0 => by simp
  | y :: l, k + 1 => by
    rw [List.flatMap_cons, List.drop_succ_cons, Nat.succ_mul, Nat.add_comm, ← List.drop_drop, ← hn y, List.drop_left, hn y, flatMap_drop hn l k]
/-- s[lo:] of a slice of the call's own, as one of its own. -/
theorem core_suffix (hF : F[i]? = some (dd, Φ)) (hn : ∀ x, (cells x).length = n) (hx : ev ρ x = v) (ht : P.underlying t = some (.slice E)) (he : (P.info? E).map (·.size) = some n) (hO : Own B E n cells w v l) (hlo : ev ρ lo = .int .i64 a) (hs : sliceI l a (l.length : Int) = some r) (hΦ : ∀ u, Own B E n cells w u r ∧ (∀ k, u.ownBlock = some k → v.ownBlock = some k) → Φ u w) :
    Yield P ⟨some dd, .slice t x (some lo) none none, ty, ps, af, g⟩ (ev ρ) w fun v w' => Ext (if p.mu.contains i then G else noG) w w' ∧ fact F i (putO ρ (some dd) v) w' := by
  obtain ⟨h0, h1, h2, hr⟩ := sliceI_some hs
  have hr : r = l.drop a.toNat := by
    rw [hr]
    exact List.take_of_length_le (by rw [List.length_drop]; omega)
  have hlen : r.length = l.length - a.toNat := by rw [hr, List.length_drop]
  cases hinfo : P.info? E with
  | none => simp [hinfo] at he
  | some q =>
    simp only [hinfo, Option.map_some, Option.some.injEq] at he
    obtain ⟨ad, cap, hv, hcap, _⟩ := hO.shape
    have hrun : (Instr.sliceAt t v (some (.int .i64 a)) none none).run P w = .ok (.slice (if cap = a.toNat then ad else ad.map (·.add (a.toNat * n))) (l.length - a.toNat) (cap - a.toNat)) w := by
      subst hv
      have hij : (0 ≤ a ∧ a ≤ (l.length : Int)) := ⟨h0, h1⟩
      simp [Instr.sliceAt, Instr.slice, run_underlying ht, Instr.sliceBounds, Instr.sliceBound, asIntOf, hij, sizeOf, typeInfo, hinfo, he]
    refine core_copy (v := .slice (if cap = a.toNat then ad else ad.map (·.add (a.toNat * n))) (l.length - a.toNat) (cap - a.toNat)) rfl hF ?_ (hΦ _ ?_)
    · simp only [YV, execOp, hx, hlo, Option.map_some, Option.map_none, Sem.run_bind, hrun, Result.andThen_ok, Sem.run_pure]
    rcases hO with ⟨hv2, hl⟩ | ⟨gb, off, cap2, cur, hv2, hg, hh, hc, hm, hsz, htk⟩
    · rw [hv2] at hv
      subst hl
      simp only [Value.slice.injEq] at hv
      obtain ⟨rfl, _, rfl⟩ := hv
      have : r = [] := by rw [hr]; simp
      rw [this]
      have ha : a.toNat = 0 := by rw [List.length_nil] at h1; omega
      rw [if_pos ha.symm, ha]
      exact ⟨Own.nil _ _ _ _ _, fun k hk => by simp [Value.ownBlock] at hk⟩
    · rw [hv2] at hv
      simp only [Value.slice.injEq] at hv
      obtain ⟨rfl, _, rfl⟩ := hv
      by_cases hca : cap2 = a.toNat
      · rw [if_pos hca]
        have : r = [] := by rw [hr]; exact List.drop_eq_nil_of_le (by omega)
        refine ⟨.inr ⟨gb, off, cap2 - a.toNat, cur, by rw [hlen], hg, hh, by omega, by omega, ?_, ?_⟩, fun k hk => by rw [hv2]; exact hk⟩
        · rw [hca, Nat.sub_self]; omega
        · rw [this]; simp
      · rw [if_neg hca]
        have hmul : cap2 * n = a.toNat * n + (cap2 - a.toNat) * n := by rw [← Nat.add_mul]; congr 1; omega
        have hml : l.length * n = a.toNat * n + r.length * n := by rw [← Nat.add_mul]; congr 1; omega
        refine ⟨.inr ⟨gb, off + a.toNat * n, cap2 - a.toNat, cur, by rw [hlen, Option.map_some, Addr.add_lit], hg, hh, by omega, by omega, by omega, ?_⟩, fun k hk => by rw [hv2]; rw [Option.map_some, Addr.add_lit] at hk; exact hk⟩
        rw [hr, ← flatMap_drop hn, ← htk, ← hr, List.drop_take, List.drop_drop]
        congr 1
        omega
end
/-- The list with all elements from lo on zero. -/
def clearI {α : Type} (z : α) (l : List α) (lo : Int) : List α := l.take lo.toNat ++ List.replicate (l.length - lo.toNat) z
theorem zeroCells_eq {α : Type} {cells : α → List Value} {z : α} {zs : Array Value} (hz : zs.toList = cells z) (hp : 0 < zs.size) (m : Nat) : (Builtin.zeroCells zs m).toList = (List.replicate m z).flatMap cells := by
  have hl : (cells z).length = zs.size := by rw [← hz]; simp
  apply List.ext_getElem?
  intro k
  have key : ∀ (m k : Nat), ((List.replicate m z).flatMap cells)[k]? = if k < m * zs.size then some zs[k % zs.size]! else none := by
    intro m
    induction m with
    | zero => intro k; simp
    | succ m ih =>
      intro k
      rw [List.replicate_succ, List.flatMap_cons]
      by_cases hk : k < zs.size
      · rw [List.getElem?_append_left (by omega), Nat.mod_eq_of_lt hk, if_pos (by rw [Nat.succ_mul]; omega), ← hz]
        simp [hk]
      · rw [List.getElem?_append_right (by omega), hl, ih]
        have e1 : (k - zs.size) % zs.size = k % zs.size := by rw [Nat.mod_eq_sub_mod (by omega : k ≥ zs.size)]
        rw [e1]
        congr 1
        rw [Nat.succ_mul, eq_iff_iff]; omega
  rw [key]
  unfold Builtin.zeroCells
  simp
  split <;> simp_all
theorem core_clear {P : Program} {w : World} {G : Nat → Prop} {ρ : Nat → Value} {F : List Fact} {p : Plan} {i : Nat} {α : Type} {B : Nat} {E : TypeId} {n : Nat} {cells : α → List Value} {v u zv : Value} {l : List α} {z : α} {t : TypeId} {x : Operand} {a : Int} {len : Nat}
    {ty : TypeId} {ps : String} {af : Array Edge} {g : Option (Nat × Bool)} {dd : Nat} (hF : F[i]? = some (dd, fun _ w' => Own B E n cells w' v (clearI z l a))) (hm : p.mu.contains i = true) (hG : ∀ b, v.ownBlock = some b → G b)
    (hn : ∀ x, (cells x).length = n) (h1 : ∀ x, ∀ u ∈ cells x, u.oneCell' = true) (hn0 : 0 < n) (hx : ev ρ x = u) (ht : P.underlying t = some (.slice E)) (hz : ∀ w, (zeroValue E).run P w = .ok zv w) (hzc : zv.cells.toList = cells z) (hV : ViewR u v n a len) (hO : Own B E n cells w v l) :
    Yield P ⟨none, .call ⟨.builtin .clear, #[x], #[t]⟩, ty, ps, af, g⟩ (ev ρ) w fun v w' => Ext (if p.mu.contains i then G else noG) w w' ∧ fact F i (putO ρ none v) w' := by
  obtain ⟨ad, L, c, a', c', hv, hlo, hL, hu, hp⟩ := hV
  have hLl : L = l.length := by
    obtain ⟨_, _, hv2, _, _⟩ := hO.shape
    rw [hv] at hv2; simp only [Value.slice.injEq] at hv2; exact hv2.2.1
  have hzs : 0 < zv.cells.size := by
    have : zv.cells.toList.length = n := by rw [hzc, hn]
    simp at this; omega
  by_cases hlen : len = 0
  · have hcl : clearI z l a = l := by unfold clearI; rw [show l.length - a.toNat = 0 by omega, List.take_of_length_le (by omega)]; simp
    have hrun : (execOp (ev ρ) ⟨none, .call ⟨.builtin .clear, #[x], #[t]⟩, ty, ps, af, g⟩).run P w = .ok (.value (.tuple #[])) w := by
      subst hlen
      cases a' <;> simp [execOp, resolve, invoke, builtin, hx, hu, Builtin.clear_, run_underlying ht]
    unfold Yield
    rw [hrun]
    refine ⟨Ext.refl _ _, ?_⟩
    unfold fact
    rw [hF, hcl]
    exact hO
  · obtain ⟨b', hb, ha'⟩ := hp (by omega)
    subst hb; subst ha'
    obtain ⟨b, o, cur0, rfl, hob, hB, hM, hml, hmc, hcm, hcl0, htake⟩ := hO.mb hv
    obtain ⟨cur, hcur0⟩ : ∃ cur, cur = cur0.drop o := ⟨_, rfl⟩
    rw [← hcur0] at htake
    have hcl : c * n ≤ cur.length := by rw [hcur0, List.length_drop]; omega
    have hfl : (l.flatMap cells).length = l.length * n := length_flatMap hn l
    have hvl : ((List.replicate len z).flatMap cells).length = len * n := by rw [length_flatMap hn, List.length_replicate]
    have hsum : a.toNat * n + len * n = l.length * n := by rw [← Nat.add_mul]; congr 1; omega
    have hle : a.toNat * n + ((List.replicate len z).flatMap cells).length ≤ cur.length := by
      rw [hvl, hsum]; exact Nat.le_trans (Nat.mul_le_mul_right n (by omega)) hcl
    have hopos : o ≤ cur0.length ∧ o + cur.length = cur0.length := by
      have h7 : 0 < l.length * n := Nat.mul_pos (by omega) hn0
      have h8 : l.length * n ≤ c * n := Nat.mul_le_mul_right n (by omega)
      rw [hcur0, List.length_drop]; omega
    obtain ⟨w', hr, hM', hE⟩ := run_storeCells (P := P) ((List.replicate len z).flatMap cells) (o + a.toNat * n) cur0 w hM (by omega) (one_flatMap h1)
    have hrun : (execOp (ev ρ) ⟨none, .call ⟨.builtin .clear, #[x], #[t]⟩, ty, ps, af, g⟩).run P w = .ok (.value (.tuple #[])) w' := by
      have h2 := run_storeCells_add (P := P) (w := w) (a := (⟨b, 0, none⟩ : Addr)) ((List.replicate len z).flatMap cells) (o + a.toNat * n) 0
      simp only [Nat.add_zero] at h2
      have h3 : (⟨b, o, none⟩ : Addr).add (a.toNat * n) = (⟨b, 0, none⟩ : Addr).add (o + a.toNat * n) := by rw [Addr.add_lit, Addr.add_lit, Nat.zero_add]
      cases len with
      | zero => exact absurd rfl hlen
      | succ len => simp [execOp, resolve, invoke, builtin, hx, hu, Builtin.clear_, run_underlying ht, hz, zeroCells_eq hzc hzs, h3, h2, hr]
    unfold Yield
    rw [hrun]
    refine ⟨?_, ?_⟩
    · show Ext (if p.mu.contains i then G else noG) w w'
      rw [hm, if_pos rfl]
      exact hE.mono (fun c hc => hG c (by rw [hc]; exact hob))
    unfold fact
    rw [hF]
    show Own B E n cells w' v (clearI z l a)
    have hcur : cur = l.flatMap cells ++ cur.drop (l.length * n) := by rw [← htake, List.take_append_drop]
    have hcll : (clearI z l a).length = l.length := by unfold clearI; simp; omega
    have htl : ∀ (l : List α) (k : Nat), k ≤ l.length → (l.flatMap cells).take (k * n) = (l.take k).flatMap cells := by
      intro l
      induction l with
      | nil => intro k hk; simp
      | cons y l ih =>
        intro k hk
        cases k with
        | zero => simp
        | succ k =>
          rw [List.take_succ_cons, List.flatMap_cons, List.flatMap_cons, Nat.succ_mul, Nat.add_comm, ← hn y, List.take_length_add_append, hn y, ih k (by simpa using hk)]
    have key : cur.take (a.toNat * n) ++ (List.replicate len z).flatMap cells ++ cur.drop (a.toNat * n + ((List.replicate len z).flatMap cells).length) = (clearI z l a).flatMap cells ++ cur.drop (l.length * n) := by
      rw [hvl, hsum]
      have e1 : cur.take (a.toNat * n) = (l.take a.toNat).flatMap cells := by
        conv => lhs; rw [hcur]
        rw [List.take_append_of_le_length (by rw [hfl]; exact Nat.mul_le_mul_right n (by omega)), htl l _ (by omega)]
      have e2 : l.length - a.toNat = len := by omega
      rw [e1]
      unfold clearI
      rw [List.flatMap_append, e2]
    have hdrop : (cur0.take (o + a.toNat * n) ++ (List.replicate len z).flatMap cells ++ cur0.drop (o + a.toNat * n + ((List.replicate len z).flatMap cells).length)).drop o = cur.take (a.toNat * n) ++ (List.replicate len z).flatMap cells ++ cur.drop (a.toNat * n + ((List.replicate len z).flatMap cells).length) := by
      have hlo : (cur0.take o).length = o := by rw [List.length_take]; omega
      rw [List.take_add, ← hcur0, Nat.add_assoc, ← List.drop_drop, ← hcur0, List.append_assoc, List.append_assoc]
      conv => lhs; arg 1; rw [← hlo]
      rw [List.drop_left, List.append_assoc]
    refine .inr ⟨b, o, c, _, by rw [hv, hLl, hcll], hB, hM', by omega, hcm, ?_, ?_⟩
    · simp only [List.size_toArray, List.length_append, List.length_take, List.length_drop]
      omega
    · show (List.drop o (_ : List Value)).take _ = _
      rw [List.toList_toArray, hdrop, key, hcll, ← hcll, ← length_flatMap hn, List.take_left]
/-- A loop's next round. -/
theorem loopC_succ {σ ρ : Type} (k : Nat) (f : (σ → Option ρ) → σ → Option ρ) (s : σ) : loopC (k + 1) f s = f (loopC k f) s := rfl
end Go.PL
