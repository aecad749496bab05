/- spans.Intersect and pensionref1.combine: which days they hold. No program in sight. -/
import Derived.Test.YtndkbfbjjnhgoaaSpA
set_option linter.unusedVariables false
namespace Go.PL
open Go Go.Sort

theorem drop_ix {α : Type} {l : List α} {i : Nat} {y : α} (h : l[i]? = some y) : l.drop i = y :: l.drop (i + 1) := by
  have hi : i < l.length := by
    rcases Nat.lt_or_ge i l.length with h1 | h1
    · exact h1
    · rw [List.getElem?_eq_none h1] at h; cases h
  rw [List.getElem?_eq_getElem hi] at h
  rw [List.drop_eq_getElem_cons hi, Option.some.inj h]
theorem Nrm_drop {l : List Span} (h : Nrm l) (i : Nat) : Nrm (l.drop i) := ⟨fun s hs => h.1 s (List.mem_of_mem_drop hs), h.2.sublist (List.drop_sublist i l)⟩
theorem Nrm_above {l : List Span} {s : Span} (h : Nrm (s :: l)) {x : Int} (hx : InS l x) : s.To < x := by
  obtain ⟨v, hv, h1⟩ := hx
  have := (Nrm_cons.1 h).2.1 v hv
  omega

set_option maxHeartbeats 2000000 in
theorem Intersect_spec (a b : List Span) (ha : a.length ≤ 2 ^ 40) (hb : b.length ≤ 2 ^ 40) :
    ∃ r, spans_Intersect a b = some r ∧ Nrm r ∧ ∀ x, InS r x ↔ InS a x ∧ InS b x ∧ 0 ≤ x ∧ x < 73049 := by
  obtain ⟨z, hz, nz, mz, lz⟩ := Make_spec a ha
  obtain ⟨w, hw, nw, mw, lw⟩ := Make_spec b hb
  unfold spans_Intersect
  rw [hz, Option.bind_some, hw, Option.bind_some]
  refine loopC_FU (f := spans_Intersect_l z w)
    (fun st => ∃ (x : List Span) (i j : Nat), st = (x, (i : Int), (j : Int)) ∧ i ≤ z.length ∧ j ≤ w.length ∧ Nrm x ∧ (∀ d, InS x d → InS z d ∧ InS w d) ∧ (∀ d, InS z d → InS w d → InS x d ∨ (InS (z.drop i) d ∧ InS (w.drop j) d)) ∧
      (∀ t ∈ x, ∀ y1 ∈ z.drop i, ∀ y2 ∈ w.drop j, t.To < max y1.From y2.From) ∧ x.length ≤ i + j)
    (fun st => z.length + w.length - st.2.1.toNat - st.2.2.toNat) _ ⟨[], 0, 0, rfl, Nat.zero_le _, Nat.zero_le _, Nrm_nil, fun d h => absurd h InS_nil, fun d h1 h2 => .inr (by simpa using ⟨h1, h2⟩), fun t h => (by cases h), Nat.zero_le _⟩ (by dsimp only; omega) ?_
  rintro st rec ⟨x, i, j, rfl, hi, hj, n, m1, m2, m3, hl⟩
  unfold spans_Intersect_l
  dsimp only
  by_cases hc : i < z.length ∧ j < w.length
  · right
    obtain ⟨hi', hj'⟩ := hc
    rw [if_pos (by simp; omega)]
    obtain ⟨y1, e1⟩ : ∃ y1, z[i]? = some y1 := ⟨_, List.getElem?_eq_getElem hi'⟩
    obtain ⟨y2, e2⟩ : ∃ y2, w[j]? = some y2 := ⟨_, List.getElem?_eq_getElem hj'⟩
    have d1 := drop_ix e1
    have d2 := drop_ix e2
    have nd1 : Nrm (y1 :: z.drop (i + 1)) := d1 ▸ Nrm_drop nz i
    have nd2 : Nrm (y2 :: w.drop (j + 1)) := d2 ▸ Nrm_drop nw j
    rw [d1, d2] at m2 m3
    have i1 : InS z = InS z := rfl
    have z1 : ∀ d, y1.From ≤ d ∧ d < y1.To → InS z d := fun d h => ⟨y1, List.mem_of_getElem? e1, h⟩
    have z2 : ∀ d, y2.From ≤ d ∧ d < y2.To → InS w d := fun d h => ⟨y2, List.mem_of_getElem? e2, h⟩
    have b1 := (Nrm_cons.1 nd1).2
    have b2 := (Nrm_cons.1 nd2).2
    -- the list behind the overlap
    have next : ∀ x' : List Span, Nrm x' → (∀ d, InS x' d ↔ InS x d ∨ ((y1.From ≤ d ∧ d < y1.To) ∧ (y2.From ≤ d ∧ d < y2.To))) → (∀ t ∈ x', t ∈ x ∨ t.To = min y1.To y2.To) → x'.length ≤ i + j + 1 →
        ∃ s', spans_Intersect_j z w (i : Int) (j : Int) rec x' = rec s' ∧ (∃ (x : List Span) (i j : Nat), s' = (x, (i : Int), (j : Int)) ∧ i ≤ z.length ∧ j ≤ w.length ∧ Nrm x ∧ (∀ d, InS x d → InS z d ∧ InS w d) ∧ (∀ d, InS z d → InS w d → InS x d ∨ (InS (z.drop i) d ∧ InS (w.drop j) d)) ∧
          (∀ t ∈ x, ∀ y1 ∈ z.drop i, ∀ y2 ∈ w.drop j, t.To < max y1.From y2.From) ∧ x.length ≤ i + j) ∧ z.length + w.length - s'.2.1.toNat - s'.2.2.toNat < z.length + w.length - (i : Int).toNat - (j : Int).toNat := by
      intro x' n' q1 q2 q3
      unfold spans_Intersect_j
      rw [getI_ix e1, Option.bind_some, getI_ix e2, Option.bind_some, idx_succ (by omega), idx_succ (by omega)]
      have q4 : ∀ d, InS x' d → InS z d ∧ InS w d := by
        intro d hd
        rcases (q1 d).1 hd with h | h
        · exact m1 d h
        · exact ⟨z1 d h.1, z2 d h.2⟩
      by_cases hlt : y1.To < y2.To
      · rw [if_pos (by simpa using hlt)]
        refine ⟨_, rfl, ⟨x', i + 1, j, rfl, by omega, by omega, n', q4, fun d h1 h2 => ?_, fun t ht v1 hv1 v2 hv2 => ?_, by omega⟩, by simp only [Int.toNat_natCast]; omega⟩
        · rcases m2 d h1 h2 with h | ⟨h, h'⟩
          · exact .inl ((q1 d).2 (.inl h))
          · rcases InS_cons.1 h with g | g
            · rcases InS_cons.1 h' with g' | g'
              · exact .inl ((q1 d).2 (.inr ⟨g, g'⟩))
              · have := Nrm_above nd2 g'; omega
            · right; rw [d2]; exact ⟨g, h'⟩
        · rw [d2] at hv2
          rcases q2 t ht with h | h
          · exact m3 t h v1 (List.mem_cons_of_mem _ hv1) v2 hv2
          · have := b1.1 v1 hv1; omega
      · rw [if_neg (by simpa using hlt)]
        refine ⟨_, rfl, ⟨x', i, j + 1, rfl, by omega, by omega, n', q4, fun d h1 h2 => ?_, fun t ht v1 hv1 v2 hv2 => ?_, by omega⟩, by simp only [Int.toNat_natCast]; omega⟩
        · rcases m2 d h1 h2 with h | ⟨h, h'⟩
          · exact .inl ((q1 d).2 (.inl h))
          · rcases InS_cons.1 h' with g' | g'
            · rcases InS_cons.1 h with g | g
              · exact .inl ((q1 d).2 (.inr ⟨g, g'⟩))
              · have := Nrm_above nd1 g; omega
            · right; rw [d1]; exact ⟨h, g'⟩
        · rw [d1] at hv1
          rcases q2 t ht with h | h
          · exact m3 t h v1 hv1 v2 (List.mem_cons_of_mem _ hv2)
          · have := b2.1 v2 hv2; omega
    simp only [getI_ix e1, getI_ix e2, Option.bind_some]
    by_cases ho : max y1.From y2.From < min y1.To y2.To
    · rw [if_pos (by simpa using ho), appI_of (by simp; omega), Option.bind_some]
      refine next _ (Nrm_snoc.2 ⟨n, fun t ht => m3 t ht y1 (List.mem_cons_self ..) y2 (List.mem_cons_self ..), by dsimp only; omega, by dsimp only; omega, by dsimp only; omega⟩) (fun d => ?_) (fun t ht => ?_) (by simp; omega)
      · rw [InS_app, InS_one]; dsimp only
        by_cases hx : InS x d
        · simp [hx]
        · simp only [hx, false_or]; omega
      · rcases List.mem_append.1 ht with h | h
        · exact .inl h
        · rw [List.mem_singleton] at h; subst h; exact .inr rfl
    · rw [if_neg (by simpa using ho)]
      refine next _ n (fun d => ?_) (fun t ht => .inl ht) (by omega)
      by_cases hx : InS x d
      · simp [hx]
      · simp only [hx, false_or]
        refine ⟨fun h => h.elim, fun h => ?_⟩
        omega
  · left
    rw [if_neg (by simp; omega)]
    refine ⟨x, rfl, n, fun d => ?_⟩
    have : InS x d ↔ InS z d ∧ InS w d := by
      refine ⟨m1 d, fun h => ?_⟩
      rcases m2 d h.1 h.2 with h | ⟨h1, h2⟩
      · exact h
      · exfalso
        by_cases hi' : i < z.length
        · rw [List.drop_eq_nil_of_le (by omega)] at h2; exact InS_nil h2
        · rw [List.drop_eq_nil_of_le (by omega)] at h1; exact InS_nil h1
    rw [this, mz, mw]
    constructor
    · rintro ⟨⟨h1, h2, h3⟩, h4, _⟩; exact ⟨h1, h4, h2, h3⟩
    · rintro ⟨h1, h4, h2, h3⟩; exact ⟨⟨h1, h2, h3⟩, h4, h2, h3⟩
theorem Clip_spec (a : List Span) (s : Span) (ha : a.length ≤ 2 ^ 40) :
    ∃ r, spans_Clip a s = some r ∧ Nrm r ∧ ∀ x, InS r x ↔ InS a x ∧ (s.From ≤ x ∧ x < s.To) ∧ 0 ≤ x ∧ x < 73049 := by
  obtain ⟨r, h1, h2, h3⟩ := Intersect_spec a [s] ha (by simp)
  refine ⟨r, by unfold spans_Clip; rw [h1]; rfl, h2, fun x => ?_⟩
  rw [h3, InS_one]

/-! ### the reference's combine -/
theorem srt_len : ∀ {l : List Int} {N lo : Int}, l.Pairwise (· < ·) → (∀ x ∈ l, lo ≤ x ∧ x ≤ N) → lo ≤ N + 1 → (l.length : Int) ≤ N + 1 - lo
  | [], _, _, _, _, h => by simp; omega
  | x :: l, N, lo, hp, hr, h => by
    obtain ⟨h1, h2⟩ := List.pairwise_cons.1 hp
    have hx := hr x (List.mem_cons_self ..)
    have := srt_len (l := l) (N := N) (lo := x + 1) h2 (fun y hy => ⟨h1 y hy, (hr y (List.mem_cons_of_mem _ hy)).2⟩) (by omega)
    simp only [List.length_cons]; omega
theorem Ins_spec (l : List Int) (n : Int) (hl : l.length ≤ 2 ^ 40) (hs : l.Pairwise (· < ·)) : ∃ r, pensionref1_Ins l n = some r ∧ r.Pairwise (· < ·) ∧ ∀ x, x ∈ r ↔ x = n ∨ x ∈ l := by
  unfold pensionref1_Ins
  refine loopC_FU (f := pensionref1_Ins_l l n) (fun st => ∃ k : Nat, st = (k : Int) ∧ k ≤ l.length ∧ ∀ u ∈ l.drop k, n ≤ u) (fun st => st.toNat) _ ⟨l.length, rfl, Nat.le_refl _, by simp⟩ (by simp only [Int.toNat_natCast]; omega) ?_
  rintro st rec ⟨k, rfl, hk, hd⟩
  unfold pensionref1_Ins_l
  have stop : (∀ u ∈ l.take k, u < n) → ∃ r, (Option.bind (if decide ((k : Int) < (l.length : Int)) = true then Option.bind (getI l (k : Int)) fun y2 => some (y2 == n) else some false) fun c2 => if c2 = true then some l else
      Option.bind (sliceI l 0 (k : Int)) fun s => Option.bind (appI 8 [] s) fun l_1 => Option.bind (appI 8 l_1 [n]) fun l2 => Option.bind (sliceI l (k : Int) (l.length : Int)) fun s2 => Option.bind (appI 8 l2 s2) fun l3 => some l3) = some r ∧ r.Pairwise (· < ·) ∧ ∀ x, x ∈ r ↔ x = n ∨ x ∈ l := by
    intro hlo
    have put : ((∀ u ∈ l.drop k, n < u)) → ∃ r, (Option.bind (sliceI l 0 (k : Int)) fun s => Option.bind (appI 8 [] s) fun l_1 => Option.bind (appI 8 l_1 [n]) fun l2 => Option.bind (sliceI l (k : Int) (l.length : Int)) fun s2 => Option.bind (appI 8 l2 s2) fun l3 => some l3) = some r ∧ r.Pairwise (· < ·) ∧ ∀ x, x ∈ r ↔ x = n ∨ x ∈ l := by
      intro hhi
      have ed : (l.drop k).take (l.length - k) = l.drop k := List.take_of_length_le (by simp)
      rw [sliceI_of (by omega) (by omega) (by omega), Option.bind_some, appI_of (by simp; omega), Option.bind_some, appI_of (by simp; omega), Option.bind_some, sliceI_of (by omega) (by omega) (by omega), Option.bind_some, appI_of (by simp; omega), Option.bind_some]
      refine ⟨_, rfl, ?_, fun x => ?_⟩
      · simp only [Int.toNat_natCast, List.nil_append, Int.toNat_zero, Nat.sub_zero, List.drop_zero]
        rw [ed, List.append_assoc, List.pairwise_append]
        refine ⟨hs.sublist (List.take_sublist k l), ?_, fun u hu v hv => ?_⟩
        · rw [List.singleton_append, List.pairwise_cons]; exact ⟨hhi, hs.sublist (List.drop_sublist k l)⟩
        · have := hlo u hu
          rcases List.mem_append.1 hv with h | h
          · rw [List.mem_singleton] at h; omega
          · have := hhi v h; omega
      · simp only [Int.toNat_natCast, List.nil_append, Int.toNat_zero, Nat.sub_zero, List.drop_zero]
        rw [ed, List.mem_append, List.mem_append, List.mem_singleton]
        have e : x ∈ l ↔ x ∈ l.take k ∨ x ∈ l.drop k := by rw [← List.mem_append, List.take_append_drop]
        rw [e]
        constructor
        · rintro ((h | h) | h)
          · exact .inr (.inl h)
          · exact .inl h
          · exact .inr (.inr h)
        · rintro (h | h | h)
          · exact .inl (.inr h)
          · exact .inl (.inl h)
          · exact .inr h
    by_cases hc : k < l.length
    · obtain ⟨y, e⟩ : ∃ y, l[k]? = some y := ⟨_, List.getElem?_eq_getElem hc⟩
      rw [if_pos (by simpa using hc), getI_ix e, Option.bind_some, Option.bind_some]
      have d := drop_ix e
      by_cases hy : y = n
      · rw [if_pos (by simpa using hy)]
        refine ⟨l, rfl, hs, fun x => ⟨.inr, fun h => ?_⟩⟩
        rcases h with h | h
        · rw [h, ← hy]; exact List.mem_of_getElem? e
        · exact h
      · rw [if_neg (by simpa using hy)]
        refine put fun u hu => ?_
        have hs' := hs.sublist (List.drop_sublist k l)
        rw [d] at hu hd hs'
        have hy' := hd y (List.mem_cons_self ..)
        rcases List.mem_cons.1 hu with h | h
        · omega
        · have := (List.pairwise_cons.1 hs').1 u h; omega
    · rw [if_neg (by simpa using hc), Option.bind_some, if_neg (by simp)]
      refine put fun u hu => ?_
      rw [List.drop_eq_nil_of_le (by omega)] at hu; cases hu
  by_cases hk0 : k = 0
  · left
    subst hk0
    rw [if_neg (by simp), Option.bind_some, if_neg (by simp)]
    exact stop (by simp)
  · obtain ⟨k, rfl⟩ : ∃ k', k = k' + 1 := ⟨k - 1, by omega⟩
    obtain ⟨y, e⟩ : ∃ y, l[k]? = some y := ⟨_, List.getElem?_eq_getElem (by omega)⟩
    have ei : i64 (((k + 1 : Nat) : Int) - 1) = (k : Int) := by rw [i64_id (by omega) (by omega)]; omega
    rw [if_pos (by simp), ei, getI_ix e, Option.bind_some, Option.bind_some]
    by_cases hy : n ≤ y
    · right
      rw [if_pos (by simpa using hy)]
      refine ⟨_, rfl, ⟨k, rfl, by omega, fun u hu => ?_⟩, by simp only [Int.toNat_natCast]; omega⟩
      rw [drop_ix e] at hu
      rcases List.mem_cons.1 hu with h | h
      · omega
      · exact hd u h
    · left
      rw [if_neg (by simpa using hy)]
      refine stop fun u hu => ?_
      rw [take_ix e] at hu
      rcases List.mem_append.1 hu with h | h
      · have hs' := hs.sublist (List.take_sublist (k + 1) l)
        rw [take_ix e, List.pairwise_append] at hs'
        have := hs'.2.2 u h y (List.mem_singleton.2 rfl); omega
      · rw [List.mem_singleton] at h; omega
end Go.PL
