/- pensionref1's combine: Contains, edges, add. No program in sight. -/
import Derived.Test.YtndkbfbjjnhgoaaSpB
set_option linter.unusedVariables false
namespace Go.PL
open Go Go.Sort

def inB (l : List Span) (x : Int) : Bool := l.any fun s => decide (s.From ≤ x) && decide (x < s.To)
theorem inB_iff {l : List Span} {x : Int} : inB l x = true ↔ InS l x := by
  unfold inB InS; simp
theorem Contains_spec (l : List Span) (day : Int) (hl : l.length ≤ 2 ^ 40) : pensionref1_Contains l day = some (inB l day && (decide (0 ≤ day) && decide (day ≤ 73048))) := by
  unfold pensionref1_Contains
  refine loop_list (f := pensionref1_Contains_l l day) l (fun (_ : Unit) i => i) (fun _ i => (inB (l.take i) day && (decide (0 ≤ day) && decide (day ≤ 73048))) = false) (fun o => o = some (inB l day && (decide (0 ≤ day) && decide (day ≤ 73048)))) (by omega) ?_ ?_ () (by simp [inB])
  · rintro rec _ i y hi hy h
    unfold pensionref1_Contains_l pensionref1_ValidDay
    rw [if_pos (by simp; omega), getI_ix hy, Option.bind_some, Option.bind_some, Option.bind_some, ite_and, Option.bind_some, ite_and, Option.bind_some, idx_succ (by omega)]
    by_cases hc : ((decide (y.From ≤ day) && decide (day < y.To)) && (decide (0 ≤ day) && decide (day ≤ 73048))) = true
    · left
      rw [if_pos hc]
      rw [Bool.and_eq_true] at hc
      have : inB l day = true := by
        rw [inB_iff]; refine ⟨y, List.mem_of_getElem? hy, ?_⟩
        have := hc.1; simp at this; exact this
      rw [this, hc.2]; rfl
    · right
      rw [if_neg hc]
      refine ⟨(), rfl, ?_⟩
      rw [take_ix hy]
      rw [Bool.not_eq_true] at hc
      have e : inB (l.take i ++ [y]) day = (inB (l.take i) day || (decide (y.From ≤ day) && decide (day < y.To))) := by unfold inB; simp
      rw [e, Bool.and_or_distrib_right, h, hc]; rfl
  · rintro rec _ h
    unfold pensionref1_Contains_l
    rw [if_neg (by simp)]
    rw [List.take_length] at h
    rw [h]

set_option maxHeartbeats 1000000 in
/-- The edges of the spans of some lists, cut to the calendar. -/
theorem edges_spec (L : List (List Span)) (hL : L.length ≤ 2 ^ 40) (hl : ∀ l ∈ L, l.length ≤ 2 ^ 40) :
    ∃ z, pensionref1_edges L = some z ∧ z.Pairwise (· < ·) ∧ (∀ x ∈ z, 0 ≤ x ∧ x ≤ 73049) ∧ ∀ l ∈ L, ∀ s ∈ l, max s.From 0 < min s.To 73049 → max s.From 0 ∈ z ∧ min s.To 73049 ∈ z := by
  unfold pensionref1_edges
  refine loop_list (f := pensionref1_edges_l L) L (fun z i => (z, i)) (fun z i => z.Pairwise (· < ·) ∧ (∀ x ∈ z, 0 ≤ x ∧ x ≤ 73049) ∧ ∀ l ∈ L.take i, ∀ s ∈ l, max s.From 0 < min s.To 73049 → max s.From 0 ∈ z ∧ min s.To 73049 ∈ z)
    (fun o => ∃ z, o = some z ∧ z.Pairwise (· < ·) ∧ (∀ x ∈ z, 0 ≤ x ∧ x ≤ 73049) ∧ ∀ l ∈ L, ∀ s ∈ l, max s.From 0 < min s.To 73049 → max s.From 0 ∈ z ∧ min s.To 73049 ∈ z) (by omega) ?_ ?_ [] ⟨.nil, fun x h => (by cases h), fun l h => by simp at h⟩
  · rintro rec z i l hi hll ⟨h1, h2, h3⟩
    right
    unfold pensionref1_edges_l
    dsimp only
    rw [if_pos (by simp; omega)]
    have hlm := hl l (List.mem_of_getElem? hll)
    refine loop_list (f := pensionref1_edges_l2 L i rec) l (fun z i => (z, i)) (fun z k => z.Pairwise (· < ·) ∧ (∀ x ∈ z, 0 ≤ x ∧ x ≤ 73049) ∧ (∀ l ∈ L.take i, ∀ s ∈ l, max s.From 0 < min s.To 73049 → max s.From 0 ∈ z ∧ min s.To 73049 ∈ z) ∧ ∀ s ∈ l.take k, max s.From 0 < min s.To 73049 → max s.From 0 ∈ z ∧ min s.To 73049 ∈ z)
      (fun o => ∃ s', o = rec (s', ((i + 1 : Nat) : Int)) ∧ s'.Pairwise (· < ·) ∧ (∀ x ∈ s', 0 ≤ x ∧ x ≤ 73049) ∧ ∀ l ∈ L.take (i + 1), ∀ s ∈ l, max s.From 0 < min s.To 73049 → max s.From 0 ∈ s' ∧ min s.To 73049 ∈ s') (by omega) ?_ ?_ z ⟨h1, h2, h3, fun s h => by simp at h⟩
    · rintro rec2 q k y hk hy ⟨a1, a2, a3, a4⟩
      right
      unfold pensionref1_edges_l2 pensionref1_edges_j pensionref1_cutSpan
      dsimp only
      rw [getI_ix hll, Option.bind_some, if_pos (by simp; omega), Option.bind_some, getI_ix hy, Option.bind_some, Option.bind_some, idx_succ (by omega)]
      dsimp only
      have hqn : q.length ≤ 2 ^ 40 := by
        have := srt_len a1 a2 (by omega); omega
      by_cases hc : max y.From 0 < min y.To 73049
      · rw [if_pos (by simpa using hc)]
        obtain ⟨q1, e1, s1, m1⟩ := Ins_spec q (max y.From 0) hqn a1
        have b1 : ∀ x ∈ q1, 0 ≤ x ∧ x ≤ 73049 := fun x hx => by
          rcases (m1 x).1 hx with h | h
          · omega
          · exact a2 x h
        have hq1 : q1.length ≤ 2 ^ 40 := by
          have := srt_len s1 b1 (by omega); omega
        obtain ⟨q2, e2, s2, m2⟩ := Ins_spec q1 (min y.To 73049) hq1 s1
        rw [e1, Option.bind_some, e2, Option.bind_some]
        have up : ∀ x ∈ q, x ∈ q2 := fun x hx => (m2 x).2 (.inr ((m1 x).2 (.inr hx)))
        refine ⟨q2, rfl, s2, fun x hx => ?_, fun v hv s hs hh => ?_, fun s hs hh => ?_⟩
        · rcases (m2 x).1 hx with h | h
          · omega
          · exact b1 x h
        · exact ⟨up _ (a3 v hv s hs hh).1, up _ (a3 v hv s hs hh).2⟩
        · rw [take_ix hy] at hs
          rcases List.mem_append.1 hs with h | h
          · exact ⟨up _ (a4 s h hh).1, up _ (a4 s h hh).2⟩
          · rw [List.mem_singleton] at h; subst h
            exact ⟨(m2 _).2 (.inr ((m1 _).2 (.inl rfl))), (m2 _).2 (.inl rfl)⟩
      · rw [if_neg (by simpa using hc)]
        refine ⟨q, rfl, a1, a2, a3, fun s hs hh => ?_⟩
        rw [take_ix hy] at hs
        rcases List.mem_append.1 hs with h | h
        · exact a4 s h hh
        · rw [List.mem_singleton] at h; subst h; omega
    · rintro rec2 q ⟨a1, a2, a3, a4⟩
      unfold pensionref1_edges_l2
      dsimp only
      rw [getI_ix hll, Option.bind_some, if_neg (by simp), idx_succ (by omega)]
      refine ⟨q, rfl, a1, a2, fun v hv s hs hh => ?_⟩
      rw [take_ix hll] at hv
      rcases List.mem_append.1 hv with h | h
      · exact a3 v h s hs hh
      · rw [List.mem_singleton] at h; subst h
        rw [List.take_length] at a4
        exact a4 s hs hh
  · rintro rec z ⟨h1, h2, h3⟩
    rw [List.take_length] at h3
    unfold pensionref1_edges_l
    dsimp only
    rw [if_neg (by simp)]
    exact ⟨z, rfl, h1, h2, h3⟩

theorem add_spec (x : List Span) (s : Span) (hx : Nrm x) (h1 : 0 ≤ s.From) (h2 : s.From < s.To) (h3 : s.To ≤ 73049) (h4 : ∀ t ∈ x, t.To ≤ s.From) :
    ∃ r, pensionref1_add x s = some r ∧ Nrm r ∧ ∀ d, InS r d ↔ InS x d ∨ (s.From ≤ d ∧ d < s.To) := by
  unfold pensionref1_add
  have hlen := Nrm_len hx
  rcases ends x with rfl | ⟨a, t, rfl⟩
  · rw [if_neg (by simp), Option.bind_some, if_neg (by simp), appI_of (by simp), Option.bind_some, appI_of (by simp), Option.bind_some]
    refine ⟨_, rfl, Nrm_snoc.2 ⟨Nrm_nil, fun t h => (by cases h), h1, h2, h3⟩, fun d => ?_⟩
    rw [InS_app, InS_one]; rfl
  · obtain ⟨n1, n2, n3⟩ := Nrm_snoc.1 hx
    have hal : a.length < 2 ^ 62 := by simp at hlen; omega
    rw [if_pos (by simp), last_ix a t hal, Option.bind_some, Option.bind_some]
    have ht := h4 t (by simp)
    by_cases hc : t.To = s.From
    · rw [if_pos (by simpa using hc), appI_of (by simp at hlen ⊢; omega), Option.bind_some, List.nil_append, last_ix a t hal, Option.bind_some, last_set a t _ hal]
      refine ⟨_, rfl, Nrm_snoc.2 ⟨n1, n2, n3.1, by dsimp only; omega, h3⟩, fun d => ?_⟩
      rw [InS_app, InS_one, InS_app, InS_one]; dsimp only
      by_cases ha : InS a d
      · simp [ha]
      · simp only [ha, false_or]; omega
    · rw [if_neg (by simpa using hc), appI_of (by simp at hlen ⊢; omega), Option.bind_some, List.nil_append, appI_of (by simp at hlen ⊢; omega), Option.bind_some]
      refine ⟨_, rfl, Nrm_snoc.2 ⟨hx, fun u hu => ?_, h1, h2, h3⟩, fun d => ?_⟩
      · rcases List.mem_append.1 hu with h | h
        · have := n2 u h; omega
        · rw [List.mem_singleton] at h; subst h; omega
      · rw [InS_app (a := a ++ [t]), InS_one]

def fm (p : Int) (u v : Bool) : Bool := ((((p == 1) && u) && v) || ((p == 2) && (u || v))) || (((p == 3) && u) && (!v))
theorem fm_or {p : Int} {u v : Bool} (h : fm p u v = true) : u = true ∨ v = true := by
  unfold fm at h
  cases u <;> cases v <;> simp_all
set_option maxHeartbeats 2000000 in
theorem combine_spec (a b : List Span) (p : Int) (ha : a.length ≤ 2 ^ 40) (hb : b.length ≤ 2 ^ 40) :
    ∃ r, pensionref1_combine a b p = some r ∧ Nrm r ∧ ∀ x, InS r x ↔ fm p (inB a x) (inB b x) = true ∧ 0 ≤ x ∧ x < 73049 := by
  obtain ⟨z, hz, sz, rz, ez⟩ := edges_spec [a, b] (by simp) (by simp [ha, hb])
  have zlen : z.length ≤ 73050 := by have := srt_len sz rz (by omega); omega
  unfold pensionref1_combine
  rw [hz, Option.bind_some]
  -- a day's place among the edges
  have key : ∀ l ∈ [a, b], ∀ d, InS l d → 0 ≤ d → d < 73049 → ∃ e1 ∈ z, ∃ e2 ∈ z, e1 ≤ d ∧ d < e2 ∧ ∀ d', e1 ≤ d' → d' < e2 → InS l d' := by
    rintro l hl d ⟨s, hs, h1, h2⟩ h3 h4
    obtain ⟨m1, m2⟩ := ez l hl s hs (by omega)
    exact ⟨_, m1, _, m2, by omega, by omega, fun d' g1 g2 => ⟨s, hs, by omega, by omega⟩⟩
  have V : ∀ d, (fm p (inB a d) (inB b d) = true ∧ 0 ≤ d ∧ d < 73049) → ∃ e1 ∈ z, ∃ e2 ∈ z, e1 ≤ d ∧ d < e2 := by
    rintro d ⟨h, h0, h1⟩
    rcases fm_or h with h | h
    · obtain ⟨e1, m1, e2, m2, g1, g2, _⟩ := key a (by simp) d (inB_iff.1 h) h0 h1; exact ⟨e1, m1, e2, m2, g1, g2⟩
    · obtain ⟨e1, m1, e2, m2, g1, g2, _⟩ := key b (by simp) d (inB_iff.1 h) h0 h1; exact ⟨e1, m1, e2, m2, g1, g2⟩
  refine loopC_FU (f := pensionref1_combine_l a b p z) (fun st => ∃ (x : List Span) (i : Nat), st = (x, (i : Int)) ∧ i ≤ z.length ∧ Nrm x ∧ ∀ d, InS x d ↔ (fm p (inB a d) (inB b d) = true ∧ 0 ≤ d ∧ d < 73049) ∧ ∀ e ∈ z.drop i, d < e)
    (fun st => z.length - st.2.toNat) _ ⟨[], 0, rfl, Nat.zero_le _, Nrm_nil, fun d => ⟨fun h => absurd h InS_nil, fun ⟨h1, h2⟩ => ?_⟩⟩ (by dsimp only; omega) ?_
  · obtain ⟨e1, m1, e2, m2, g1, g2⟩ := V d h1
    have := h2 e1 (by simpa using m1); omega
  rintro st rec ⟨x, i, rfl, hi, n, m⟩
  unfold pensionref1_combine_l pensionref1_combine_j
  dsimp only
  rw [idx_succ (by omega)]
  by_cases hc : i + 1 < z.length
  · right
    rw [if_pos (by simp; omega)]
    obtain ⟨y1, e1⟩ : ∃ y, z[i]? = some y := ⟨_, List.getElem?_eq_getElem (by omega)⟩
    obtain ⟨y2, e2⟩ : ∃ y, z[i + 1]? = some y := ⟨_, List.getElem?_eq_getElem (by omega)⟩
    have d1 := drop_ix e1
    have d2 := drop_ix e2
    have sd : (y1 :: y2 :: z.drop (i + 1 + 1)).Pairwise (· < ·) := by rw [← d2, ← d1]; exact sz.sublist (List.drop_sublist i z)
    obtain ⟨p1, p2⟩ := List.pairwise_cons.1 sd
    obtain ⟨p3, _⟩ := List.pairwise_cons.1 p2
    have h12 := p1 y2 (List.mem_cons_self ..)
    have r1 := rz y1 (List.mem_of_getElem? e1)
    have r2 := rz y2 (List.mem_of_getElem? e2)
    have zs : ∀ e ∈ z, e ≤ y1 ∨ y2 ≤ e := by
      intro e he
      have hh : e ∈ z.take (i + 1) ∨ e ∈ z.drop (i + 1) := by rw [← List.mem_append, List.take_append_drop]; exact he
      rcases hh with h | h
      · left
        rw [take_ix e1] at h
        rcases List.mem_append.1 h with h | h
        · have := sz.sublist (List.take_sublist (i + 1) z)
          rw [take_ix e1, List.pairwise_append] at this
          have := this.2.2 e h y1 (List.mem_singleton.2 rfl); omega
        · rw [List.mem_singleton] at h; omega
      · right
        rw [d2] at h
        rcases List.mem_cons.1 h with h | h
        · omega
        · have := p3 e h; omega
    have same : ∀ l ∈ [a, b], ∀ d, y1 ≤ d → d < y2 → (inB l d = inB l y1) := by
      intro l hl d g1 g2
      rw [Bool.eq_iff_iff, inB_iff, inB_iff]
      constructor
      · intro h
        obtain ⟨f1, w1, f2, w2, q1, q2, q3⟩ := key l hl d h (by omega) (by omega)
        refine q3 y1 ?_ ?_
        · rcases zs f1 w1 with h | h
          · exact h
          · omega
        · omega
      · intro h
        obtain ⟨f1, w1, f2, w2, q1, q2, q3⟩ := key l hl y1 h (by omega) (by omega)
        refine q3 d (by omega) ?_
        rcases zs f2 w2 with h | h <;> omega
    have lowE : ∀ d, (∀ e ∈ z.drop i, d < e) ↔ d < y1 := by
      intro d; rw [d1]
      constructor
      · intro h; exact h y1 (List.mem_cons_self ..)
      · intro h e he
        rcases List.mem_cons.1 he with h' | h'
        · omega
        · rw [d2] at h'; have := p1 e h'; omega
    have lowE2 : ∀ d, (∀ e ∈ z.drop (i + 1), d < e) ↔ d < y2 := by
      intro d; rw [d2]
      constructor
      · intro h; exact h y2 (List.mem_cons_self ..)
      · intro h e he
        rcases List.mem_cons.1 he with h' | h'
        · omega
        · have := p3 e h'; omega
    have v1 : (decide (0 ≤ y1) && decide (y1 ≤ 73048)) = true := by simp; omega
    rw [getI_ix e1, Option.bind_some, Contains_spec a y1 ha, Option.bind_some, Option.bind_some, Contains_spec b y1 hb, Option.bind_some, Option.bind_some, getI_ix e2, Option.bind_some, v1, Bool.and_true, Bool.and_true]
    have hfm : (((((p == 1) && inB a y1) && inB b y1) || ((p == 2) && (inB a y1 || inB b y1))) || (((p == 3) && inB a y1) && (!inB b y1))) = fm p (inB a y1) (inB b y1) := rfl
    rw [hfm]
    by_cases hf : fm p (inB a y1) (inB b y1) = true
    · rw [if_pos hf]
      obtain ⟨r, er, nr, mr⟩ := add_spec x (⟨y1, y2⟩ : Span) n r1.1 h12 r2.2 (fun t ht => by
        have q := n.1 t ht
        have := (m (t.To - 1)).1 ⟨t, ht, by omega, by omega⟩
        have := (lowE _).1 this.2
        dsimp only; omega)
      rw [er, Option.bind_some]
      refine ⟨_, rfl, ⟨r, i + 1, rfl, by omega, nr, fun d => ?_⟩, by simp only [Int.toNat_natCast]; omega⟩
      rw [mr, m, lowE, lowE2]
      dsimp only
      constructor
      · rintro (⟨h1, h2⟩ | ⟨h1, h2⟩)
        · exact ⟨h1, by omega⟩
        · rw [same a (by simp) d h1 h2, same b (by simp) d h1 h2]; exact ⟨⟨hf, by omega, by omega⟩, h2⟩
      · rintro ⟨h1, h2⟩
        by_cases h3 : d < y1
        · exact .inl ⟨h1, h3⟩
        · exact .inr ⟨by omega, h2⟩
    · rw [if_neg hf]
      refine ⟨_, rfl, ⟨x, i + 1, rfl, by omega, n, fun d => ?_⟩, by simp only [Int.toNat_natCast]; omega⟩
      rw [m, lowE, lowE2]
      constructor
      · rintro ⟨h1, h2⟩; exact ⟨h1, by omega⟩
      · rintro ⟨h1, h2⟩
        refine ⟨h1, ?_⟩
        by_cases h3 : d < y1
        · exact h3
        · exfalso
          rw [same a (by simp) d (by omega) h2, same b (by simp) d (by omega) h2] at h1
          exact hf h1.1
  · left
    rw [if_neg (by simp; omega)]
    refine ⟨x, rfl, n, fun d => ?_⟩
    rw [m]
    refine ⟨fun h => h.1, fun h => ⟨h, fun e he => ?_⟩⟩
    obtain ⟨f1, w1, f2, w2, q1, q2⟩ := V d h
    have hh : f2 ∈ z.take i ∨ f2 ∈ z.drop i := by rw [← List.mem_append, List.take_append_drop]; exact w2
    have hd1 : (z.drop i).length ≤ 1 := by simp; omega
    match hzd : z.drop i, hd1 with
    | [], _ => rw [hzd] at he; cases he
    | [u], _ =>
      rw [hzd] at he hh
      rw [List.mem_singleton] at he
      subst he
      rcases hh with h' | h'
      · have := sz
        rw [← List.take_append_drop i z, hzd, List.pairwise_append] at this
        have := this.2.2 f2 h' e (List.mem_singleton.2 rfl); omega
      · rw [List.mem_singleton] at h'; omega
end Go.PL
