/- slices.SortFunc at slices of structs, by the library's own contract: what the program logic of these proofs asks and hands back. It holds for every program. -/
import Derived.Shelf.SlSortCmp.NoneTotal
import Derived.Test.YtndkbfbjjnhgoaaGreatDoorView
namespace Go.PL
open Go Go.Proofs Go.Sort

theorem flatMap_at {α : Type} [Inhabited α] {cells : α → List Value} {n : Nat} (hn : ∀ x, (cells x).length = n) : ∀ (l : List α) (t : Nat), t < l.length * n → (l.flatMap cells)[t]? = (cells (l[t / n]!))[t % n]?
  | [], t, h => by simp at h
  | x :: r, t, h => by
    have hp : 0 < n := by
      rcases Nat.eq_zero_or_pos n with h0 | h0
      · rw [h0] at h; simp at h
      · exact h0
    rw [List.flatMap_cons]
    by_cases ht : t < n
    · rw [List.getElem?_append_left (by rw [hn]; exact ht), Nat.div_eq_of_lt ht, Nat.mod_eq_of_lt ht]; rfl
    · have h1 : t = (t - n) + n := by omega
      have h2 : t / n = (t - n) / n + 1 := by rw [h1, Nat.add_div_right _ hp]; simp
      have h3 : t % n = (t - n) % n := by rw [h1, Nat.add_mod_right]; simp
      rw [List.getElem?_append_right (by rw [hn]; omega), hn, flatMap_at hn r (t - n) (by simp only [List.length_cons, Nat.succ_mul] at h; omega), h2, h3]
      rfl
theorem flatK_toList {α : Type} [Inhabited α] {cells : α → List Value} {n : Nat} (hn : ∀ x, (cells x).length = n) (d : Array α) : (flatK cells n d).toList = d.toList.flatMap cells := by
  apply List.ext_getElem?
  intro t
  by_cases ht : t < d.size * n
  · rw [flatMap_at hn d.toList t (by simpa using ht)]
    have h1 : (flatK cells n d)[t]? = some ((cells (d[t / n]!))[t % n]!) := by
      rw [← get_flatK cells n d t ht, getElem!_pos (flatK cells n d) t (by rw [size_flatK]; exact ht)]
      simp
    have hp : 0 < n := by
      rcases Nat.eq_zero_or_pos n with h0 | h0
      · rw [h0] at ht; simp at ht
      · exact h0
    have hlt : t % n < (cells (d[t / n]!)).length := by rw [hn]; exact Nat.mod_lt _ hp
    have h2 : d.toList[t / n]! = d[t / n]! := by simp [List.getElem!_eq_getElem?_getD, Array.getElem!_eq_getD, Array.getD_eq_getD_getElem?]
    rw [Array.getElem?_toList, h1, h2, getElem!_pos (cells (d[t / n]!)) (t % n) hlt, List.getElem?_eq_getElem hlt]
  · rw [List.getElem?_eq_none (by simp; omega), List.getElem?_eq_none (by rw [length_flatMap hn]; simp; omega)]

section
variable {α : Type} [Inhabited α] {B : Nat} {E : TypeId} {n : Nat} {cells : α → List Value} {w w' : World} {v : Value} {l : List α}

theorem own_holds (hn : ∀ x, (cells x).length = n) {g o cap m : Nat} (h : Own B E n cells w (.slice (some ⟨g, o, none⟩) m cap) l) : HoldsK cells n w g o l.toArray := by
  intro j hj
  rw [size_flatK] at hj
  have hk := flatK_toList hn l.toArray
  have hu : (l.flatMap cells)[j]? = some ((flatK cells n l.toArray)[j]!) := by
    have : (flatK cells n l.toArray).toList[j]? = some ((flatK cells n l.toArray)[j]!) := by
      rw [getElem!_pos (flatK cells n l.toArray) j (by rw [size_flatK]; exact hj)]
      simp
    rw [hk] at this
    simpa using this
  refine ⟨?_, ?_⟩
  · have := h.ca rfl j _ hu
    rwa [Addr.add_lit] at this
  · rcases h with ⟨hv, _⟩ | ⟨g', o', cap', cur, hv, _, hh, _⟩
    · cases hv
    · simp only [Value.slice.injEq, Option.some.injEq, Addr.mk.injEq] at hv
      obtain ⟨⟨rfl, _, _⟩, _, _⟩ := hv
      have hM : Mb w g E cur.toList := by show _ = _; rw [hh]
      exact hM.frozen _

theorem putCells_take {F cur : Array Value} {m o : Nat} (hF : F.size = m) (hc : o + m ≤ cur.size) : ((putCells id o F cur).toList.drop o).take m = F.toList := by
  apply List.ext_getElem?
  intro t
  by_cases ht : t < m
  · rw [List.getElem?_take_of_lt ht, List.getElem?_drop, Array.getElem?_toList]
    simp only [putCells, Array.getElem?_mapIdx, id]
    rw [Array.getElem?_eq_getElem (show o + t < cur.size by omega), Option.map_some, if_pos ⟨Nat.le_add_right _ _, by omega⟩, Array.getElem?_toList, Nat.add_sub_cancel_left, getElem!_pos F t (by omega), Array.getElem?_eq_getElem (show t < F.size by omega)]
  · rw [List.getElem?_eq_none (by simp; omega), List.getElem?_eq_none (by simp; omega)]

theorem own_put (hn : ∀ x, (cells x).length = n) {g o cap m q : Nat} {os : Array Obj} {d : Array α} (h : Own B E n cells w (.slice (some ⟨g, o, none⟩) m cap) l) (hd : d.size = l.length) :
    Own B E n cells (grow (putRowK cells n (Go.Sort.ahead w q) g o d) os) (.slice (some ⟨g, o, none⟩) m cap) d.toList := by
  rcases h with ⟨hv, _⟩ | ⟨g', o', cap', cur, hv, hB, hh, hc, hm, hs, ht⟩
  · cases hv
  · simp only [Value.slice.injEq, Option.some.injEq, Addr.mk.injEq] at hv
    obtain ⟨⟨rfl, rfl, _⟩, hml, rfl⟩ := hv
    have hlt : g < w.heap.size := (Array.getElem?_eq_some_iff.1 hh).1
    have hmn : d.size * n ≤ cap * n := by rw [hd]; exact Nat.mul_le_mul_right _ hc
    refine .inr ⟨g, o, cap, putCells id o (flatK cells n d) cur, by rw [Array.length_toList, hd, hml], hB, ?_, by rw [Array.length_toList, hd]; exact hc, hm, by simp [putCells, hs], ?_⟩
    · show ((putRowK cells n (Go.Sort.ahead w q) g o d).heap ++ os)[g]? = _
      rw [Array.getElem?_append_left (by rw [size_putRowK]; exact hlt)]
      show (w.heap.modify g _)[g]? = _
      rw [Array.getElem?_modify, if_pos rfl, hh]
      rfl
    · rw [Array.length_toList, putCells_take (by rw [size_flatK]) (by omega), flatK_toList hn]

theorem ext_put {G : Nat → Prop} {g o q : Nat} {os : Array Obj} {d : Array α} (hg : G g) : Ext G w (grow (putRowK cells n (Go.Sort.ahead w q) g o d) os) :=
  ⟨rfl, rfl, rfl, by show _ ≤ ((putRowK cells n (Go.Sort.ahead w q) g o d).heap ++ os).size; rw [Array.size_append, size_putRowK]; exact Nat.le_add_right _ _,
    fun b hb hn => by
      show ((putRowK cells n (Go.Sort.ahead w q) g o d).heap ++ os)[b]? = _
      rw [Array.getElem?_append_left (by rw [size_putRowK]; exact hb)]
      show (w.heap.modify g _)[b]? = _
      rw [Array.getElem?_modify, if_neg (fun e : g = b => hn (e ▸ hg))],
    Nat.le_add_right _ _⟩
end

/-- Where nothing that is there changes: some draws, some blocks. -/
theorem Ext.grown {w w' : World} (h : Ext noG w w') : ∃ q os, w' = grow (w.drewN q) os := by
  refine ⟨w'.drawn - w.drawn, w'.heap.extract w.heap.size w'.heap.size, ?_⟩
  obtain ⟨heap', tape', drawn', os', output'⟩ := w'
  have e1 : os' = w.os := h.os
  have e2 : tape' = w.tape := h.tape
  have e3 : output' = w.output := h.output
  have hs : w.heap.size ≤ heap'.size := h.size
  have hd : w.drawn ≤ drawn' := h.drawn
  have hb : ∀ k, k < w.heap.size → heap'[k]? = w.heap[k]? := fun k hk => h.block k hk (fun hh => hh)
  subst e1 e2 e3
  have eh : heap' = w.heap ++ heap'.extract w.heap.size heap'.size := by
    apply Array.ext_getElem?
    intro k
    by_cases hk : k < w.heap.size
    · rw [Array.getElem?_append_left hk]; exact hb k hk
    · rw [Array.getElem?_append_right (by omega), Array.getElem?_extract]
      by_cases hk2 : k < heap'.size
      · rw [if_pos (by omega)]; congr 1; omega
      · rw [if_neg (by omega), Array.getElem?_eq_none (by omega)]
  simp only [grow, World.drewN]
  congr 1
  omega

/-- The function that a sort is handed, as an order. -/
def cfO {α : Type} (c : α × α → Option Int) (a b : α) : Int := (c (a, b)).getD 0
/-- What a sort asks of it: it answers; it is an order that tells any two apart. -/
structure TotO {α : Type} (c : α × α → Option Int) : Prop where
  some : ∀ a b, c (a, b) = .some (cfO c a b)
  swo : SWO (ltOf (cfO c))
  anti : ∀ x y, ltOf (cfO c) x y = false → ltOf (cfO c) y x = false → x = y
/-- slices.SortFunc. -/
def sortF {α : Type} (l : List α) (c : α × α → Option Int) : Option (List α) := if l.length < 4611686018427387904 then some (l.mergeSort fun x y => !ltOf (cfO c) y x) else none

set_option maxHeartbeats 1000000 in
theorem sortF_calls {α : Type} [Inhabited α] {P : Program} {ρ : Go.Shelf.Ren} (L : SlLaysF0.n6 P ρ) {B : Nat} {E : TypeId} {n : Nat} {cells : α → List Value} {w0 : World} {v vc : Value} {l r : List α} {V : α × α → List Value} {W : Int → Value} {c : α × α → Option Int}
    (aE : ∀ w, (isAgg (ρ.t 24)).run P w = .ok true w) (zE : ∀ w, (Go.sizeOf (ρ.t 24)).run P w = .ok n w) (hn : ∀ x, (cells x).length = n) (h1 : ∀ x, ∀ u ∈ cells x, u.oneCell' = true)
    (hV : ∀ x y, V (x, y) = [.agg (cells x).toArray, .agg (cells y).toArray]) (hW : ∀ k, W k = .int .i64 k) (hc : TotO c) (hn0 : 0 < n)
    (hO : Own B E n cells w0 v l) (hf : FnR P V W c (fun b => v.ownBlock = some b) w0 vc) (hF : sortF l c = some r) :
    Calls P (ρ.f 6) #[v, vc] w0 fun e w1 => e = .returned (.tuple #[]) ∧ Ext (fun b => v.ownBlock = some b) w0 w1 ∧ Own B E n cells w1 v r := by
  unfold sortF at hF
  split at hF
  case isFalse => cases hF
  rename_i hlen
  obtain rfl := Option.some.inj hF
  obtain ⟨f, cap, rfl, hent, hcall⟩ := hf
  obtain ⟨a, cp, hv, hle, hmx⟩ := hO.shape
  cases a with
  | none =>
    have hl : l = [] := by
      rcases hO with ⟨_, h⟩ | ⟨g, o', c', cur, hv', _⟩
      · exact h
      · rw [hv] at hv'; cases hv'
    subst hl
    subst hv
    refine (AnyF.slices_SortFunc_none L none cp _ w0).mono ?_
    rintro e w1 ⟨rfl, rfl⟩
    exact ⟨rfl, Ext.refl _ _, by simpa using hO⟩
  | some ad =>
    obtain ⟨g, o, hg⟩ : ∃ g o, ad = ⟨g, o, none⟩ := by
      rcases hO with ⟨h, _⟩ | ⟨g, o, c', cur, hv', _⟩
      · rw [hv] at h; cases h
      · rw [hv] at hv'; cases hv'; exact ⟨g, o, rfl⟩
    subst hg
    subst hv
    have hlt : g < w0.heap.size := (hO.lt rfl).2
    have hsz : l.toArray.size < 4611686018427387904 := by rw [List.size_toArray]; exact hlen
    have hcmp : CmpLays P f cap.toArray cells n (cfO c) g o l.toArray.size w0 := by
      intro m os dk hs x y
      have h := hcall (sortWorldK cells n w0 g o m dk os) (ext_put rfl) (x, y) _ (hc.some x y)
      have e : (#[Value.agg (cells x).toArray, Value.agg (cells y).toArray] ++ cap.toArray : Array Value) = (V (x, y) ++ cap).toArray := by rw [hV]; simp
      rw [e]
      generalize sortWorldK cells n w0 g o m dk os = W1 at h ⊢
      refine Calls.mono h ?_
      intro e w1 hh
      exact ⟨by rw [hh.1, hW], hh.2.grown⟩
    have hS := AnyQ.slices_SortFunc_total L n aE zE cells hn h1 (cfO c) hc.swo f cap.toArray g o cp l.toArray w0 (fun args w => hent args w) hcmp (own_holds hn hO) hlt hsz hc.anti
    rw [show l.toArray.size = l.length from List.size_toArray] at hS
    refine hS.mono ?_
    generalize hd : (l.mergeSort fun x y => !ltOf (cfO c) y x) = d
    have hdl : d.length = l.length := by rw [← hd]; exact List.length_mergeSort l
    rintro e w1 ⟨rfl, q, os, rfl⟩
    refine ⟨rfl, ext_put rfl, ?_⟩
    have := own_put hn (q := q) (os := os) (d := d.toArray) hO (by simpa using hdl)
    rw [List.toList_toArray] at this
    exact this
end Go.PL
