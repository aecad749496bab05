/- Span lists: loops over a list by index; normal lists and the days in them; sort.Slice and spans.Make. No program in sight. -/
import Derived.Sort.AssemblyPlain
import Derived.Test.YtndkbfbjjnhgoaaPure
import Derived.Test.YtndkbfbjjnhgoaaF
set_option linter.unusedVariables false
namespace Go.PL
open Go Go.Sort

/-- A loop over a list by its index. -/
theorem loop_list {σ ρ S α : Type} {f : (σ → Option ρ) → σ → Option ρ} (l : List α) (e : S → Int → σ) (I : S → Nat → Prop) (Q : Option ρ → Prop) (hl : l.length < 2 ^ 62)
    (hstep : ∀ rec s (i : Nat) y, i < l.length → l[i]? = some y → I s i → Q (f rec (e s (i : Int))) ∨ ∃ s', f rec (e s (i : Int)) = rec (e s' ((i + 1 : Nat) : Int)) ∧ I s' (i + 1))
    (hfin : ∀ rec s, I s l.length → Q (f rec (e s (l.length : Int)))) (s : S) (h0 : I s 0) : Q (loopC FU f (e s 0)) := by
  have key : ∀ (k : Nat) (s : S) (i : Nat), i ≤ l.length → I s i → l.length - i < k → Q (loopC k f (e s (i : Int))) := by
    intro k
    induction k with
    | zero => intro s i _ _ h; omega
    | succ k ih =>
      intro s i hi hI hk
      show Q (f (loopC k f) (e s (i : Int)))
      by_cases h : i < l.length
      · rcases hstep (loopC k f) s i l[i] h (List.getElem?_eq_getElem h) hI with h1 | ⟨s', h1, h2⟩
        · exact h1
        · rw [h1]; exact ih s' (i + 1) (by omega) h2 (by omega)
      · have : i = l.length := by omega
        subst this
        exact hfin _ _ hI
  have : (0 : Int) = ((0 : Nat) : Int) := rfl
  rw [this]
  exact key FU s 0 (Nat.zero_le _) h0 (by unfold FU; omega)
theorem idx_succ {x : Nat} (h : x < 2 ^ 62) : i64 ((x : Int) + 1) = ((x + 1 : Nat) : Int) := by rw [i64_id (by omega) (by omega)]; simp
theorem getI_ix {α : Type} {l : List α} {i : Nat} {y : α} (h : l[i]? = some y) : getI l (i : Int) = some y := by rw [getI_nat]; exact h
theorem take_ix {α : Type} {l : List α} {i : Nat} {y : α} (h : l[i]? = some y) : l.take (i + 1) = l.take i ++ [y] := by
  have hi : i < l.length := by
    rcases Nat.lt_or_ge i l.length with h1 | h1
    · exact h1
    · rw [List.getElem?_eq_none h1] at h; cases h
  rw [List.take_succ_eq_append_getElem hi]
  rw [List.getElem?_eq_getElem hi] at h
  rw [Option.some.inj h]
/-- The last element of a list that ends in it. -/
theorem last_ix {α : Type} (a : List α) (t : α) (h : a.length < 2 ^ 62) : getI (a ++ [t]) (i64 (((a ++ [t]).length : Int) - 1)) = some t := by
  have : i64 (((a ++ [t]).length : Int) - 1) = ((a.length : Nat) : Int) := by rw [List.length_append]; simp only [List.length_cons, List.length_nil]; rw [i64_id (by omega) (by omega)]; omega
  rw [this, getI_nat]; simp
theorem last_set {α : Type} (a : List α) (t u : α) (h : a.length < 2 ^ 62) : setI (a ++ [t]) (i64 (((a ++ [t]).length : Int) - 1)) u = a ++ [u] := by
  have : i64 (((a ++ [t]).length : Int) - 1) = ((a.length : Nat) : Int) := by rw [List.length_append]; simp only [List.length_cons, List.length_nil]; rw [i64_id (by omega) (by omega)]; omega
  rw [this]; unfold setI; rw [if_pos (Int.natCast_nonneg _)]; simp
theorem ends {α : Type} (l : List α) : l = [] ∨ ∃ a t, l = a ++ [t] := by
  rcases List.eq_nil_or_concat l with h | ⟨a, t, h⟩
  · exact .inl h
  · exact .inr ⟨a, t, by simpa using h⟩

/-- A day lies in a list of spans. -/
def InS (l : List Span) (x : Int) : Prop := ∃ s ∈ l, s.From ≤ x ∧ x < s.To
theorem InS_nil {x : Int} : ¬ InS [] x := by rintro ⟨s, h, _⟩; cases h
theorem InS_app {a b : List Span} {x : Int} : InS (a ++ b) x ↔ InS a x ∨ InS b x := by
  constructor
  · rintro ⟨s, h, h1⟩
    rcases List.mem_append.1 h with h | h
    · exact .inl ⟨s, h, h1⟩
    · exact .inr ⟨s, h, h1⟩
  · rintro (⟨s, h, h1⟩ | ⟨s, h, h1⟩)
    · exact ⟨s, List.mem_append_left _ h, h1⟩
    · exact ⟨s, List.mem_append_right _ h, h1⟩
theorem InS_one {s : Span} {x : Int} : InS [s] x ↔ s.From ≤ x ∧ x < s.To := by
  constructor
  · rintro ⟨t, h, h1⟩; rw [List.mem_singleton] at h; subst h; exact h1
  · intro h; exact ⟨s, List.mem_singleton.2 rfl, h⟩
theorem InS_cons {s : Span} {b : List Span} {x : Int} : InS (s :: b) x ↔ (s.From ≤ x ∧ x < s.To) ∨ InS b x := by
  have := @InS_app [s] b x
  rw [InS_one] at this; exact this
theorem InS_perm {a b : List Span} (h : a.Perm b) {x : Int} : InS a x ↔ InS b x := by
  constructor
  · rintro ⟨s, hs, h1⟩; exact ⟨s, h.mem_iff.1 hs, h1⟩
  · rintro ⟨s, hs, h1⟩; exact ⟨s, h.mem_iff.2 hs, h1⟩
/-- A normal list: days of the calendar, ascending, no two touch. -/
def Nrm (l : List Span) : Prop := (∀ s ∈ l, 0 ≤ s.From ∧ s.From < s.To ∧ s.To ≤ 73049) ∧ l.Pairwise (fun a b => a.To < b.From)
theorem Nrm_nil : Nrm [] := ⟨fun _ h => (by cases h), List.Pairwise.nil⟩
theorem Nrm_snoc {a : List Span} {s : Span} : Nrm (a ++ [s]) ↔ Nrm a ∧ (∀ t ∈ a, t.To < s.From) ∧ 0 ≤ s.From ∧ s.From < s.To ∧ s.To ≤ 73049 := by
  unfold Nrm
  rw [List.pairwise_append]
  constructor
  · rintro ⟨h1, h2, h3, h4⟩
    exact ⟨⟨fun t ht => h1 t (List.mem_append_left _ ht), h2⟩, fun t ht => h4 t ht s (List.mem_singleton.2 rfl), h1 s (List.mem_append_right _ (List.mem_singleton.2 rfl))⟩
  · rintro ⟨⟨h1, h2⟩, h3, h4⟩
    refine ⟨fun t ht => ?_, h2, List.pairwise_singleton _ _, fun t ht u hu => ?_⟩
    · rcases List.mem_append.1 ht with h | h
      · exact h1 t h
      · rw [List.mem_singleton] at h; subst h; exact h4
    · rw [List.mem_singleton] at hu; subst hu; exact h3 t ht
theorem Nrm_cons {a : List Span} {s : Span} : Nrm (s :: a) ↔ Nrm a ∧ (∀ t ∈ a, s.To < t.From) ∧ 0 ≤ s.From ∧ s.From < s.To ∧ s.To ≤ 73049 := by
  unfold Nrm
  rw [List.pairwise_cons]
  constructor
  · rintro ⟨h1, h2, h3⟩
    exact ⟨⟨fun t ht => h1 t (List.mem_cons_of_mem _ ht), h3⟩, h2, h1 s (List.mem_cons_self ..)⟩
  · rintro ⟨⟨h1, h2⟩, h3, h4⟩
    refine ⟨fun t ht => ?_, h3, h2⟩
    rcases List.mem_cons.1 ht with h | h
    · subst h; exact h4
    · exact h1 t h
theorem Nrm_InS {l : List Span} (h : Nrm l) {x : Int} (hx : InS l x) : 0 ≤ x ∧ x < 73049 := by
  obtain ⟨s, hs, h1⟩ := hx
  have := h.1 s hs
  omega
/-- A normal list is known by its days. -/
theorem Nrm_uniq : ∀ {a b : List Span}, Nrm a → Nrm b → (∀ x, InS a x ↔ InS b x) → a = b
  | [], [], _, _, _ => rfl
  | [], s :: b, _, hb, h => by
    have := (Nrm_cons.1 hb).2.2
    exact absurd ((h s.From).2 (InS_cons.2 (.inl ⟨Int.le_refl _, this.2.1⟩))) InS_nil
  | s :: a, [], ha, _, h => by
    have := (Nrm_cons.1 ha).2.2
    exact absurd ((h s.From).1 (InS_cons.2 (.inl ⟨Int.le_refl _, this.2.1⟩))) InS_nil
  | s :: a, t :: b, ha, hb, h => by
    obtain ⟨ha1, ha2, ha3⟩ := Nrm_cons.1 ha
    obtain ⟨hb1, hb2, hb3⟩ := Nrm_cons.1 hb
    have low : ∀ {c : List Span} {u : Span}, (∀ t ∈ c, u.To < t.From) → ∀ {x}, InS c x → u.To < x := by
      rintro c u hc x ⟨v, hv, h1⟩; have := hc v hv; omega
    have f1 : t.From ≤ s.From := by
      rcases InS_cons.1 ((h s.From).1 (InS_cons.2 (.inl ⟨Int.le_refl _, ha3.2.1⟩))) with h1 | h1
      · exact h1.1
      · have := low hb2 h1; omega
    have f2 : s.From ≤ t.From := by
      rcases InS_cons.1 ((h t.From).2 (InS_cons.2 (.inl ⟨Int.le_refl _, hb3.2.1⟩))) with h1 | h1
      · exact h1.1
      · have := low ha2 h1; omega
    have t1 : ¬ s.To < t.To := by
      intro h1
      rcases InS_cons.1 ((h s.To).2 (InS_cons.2 (.inl ⟨by omega, h1⟩))) with h2 | h2
      · omega
      · have := low ha2 h2; omega
    have t2 : ¬ t.To < s.To := by
      intro h1
      rcases InS_cons.1 ((h t.To).1 (InS_cons.2 (.inl ⟨by omega, h1⟩))) with h2 | h2
      · omega
      · have := low hb2 h2; omega
    have hst : s = t := by cases s; cases t; simp only [Span.mk.injEq] at *; omega
    subst hst
    congr 1
    refine Nrm_uniq ha1 hb1 fun x => ?_
    constructor
    · intro hx
      have := low ha2 hx
      rcases InS_cons.1 ((h x).1 (InS_cons.2 (.inr hx))) with h2 | h2
      · omega
      · exact h2
    · intro hx
      have := low hb2 hx
      rcases InS_cons.1 ((h x).2 (InS_cons.2 (.inr hx))) with h2 | h2
      · omega
      · exact h2
/-- It has no more spans than the calendar has days. -/
theorem Nrm_len {l : List Span} (h : Nrm l) : l.length ≤ 73049 := by
  have key : ∀ (l : List Span), Nrm l → ∀ s ∈ l.getLast?, (l.length : Int) ≤ s.To := by
    intro l
    have : ∀ (r : List Span), Nrm r.reverse → ∀ s ∈ r.head?, (r.length : Int) ≤ s.To := by
      intro r
      induction r with
      | nil => intro _ s hs; cases hs
      | cons u r ih =>
        intro hn s hs
        cases hs
        rw [List.reverse_cons] at hn
        obtain ⟨h1, h2, h3⟩ := Nrm_snoc.1 hn
        cases r with
        | nil => simp only [List.length_cons, List.length_nil]; omega
        | cons v r =>
          have a := ih h1 v rfl
          have b := h2 v (by simp)
          simp only [List.length_cons] at a ⊢; omega
    intro hn s hs
    have := this l.reverse (by rw [List.reverse_reverse]; exact hn) s (by rw [List.head?_reverse]; exact hs)
    rwa [List.length_reverse] at this
  rcases ends l with rfl | ⟨a, t, rfl⟩
  · exact Nat.zero_le _
  · have a := key _ h t (by simp)
    have b := (Nrm_snoc.1 h).2.2
    omega

/-! ### sort.Slice -/
theorem swo_Fr : SWO (fun x y : Span => decide (x.From < y.From)) := by
  constructor
  · intro x; simp
  · intro x y z; simp only [decide_eq_true_eq]; omega
  · intro x y z; simp only [decide_eq_false_iff_not]; omega
theorem sort_From (l : List Span) (h : l.length < 4611686018427387904) : ∃ r, sort_Slice_44 l = some r ∧ r.Perm l ∧ r.Pairwise (fun a b => a.From ≤ b.From) := by
  unfold sort_Slice_44 sortSF
  by_cases h1 : l.length ≤ 1
  · rw [if_pos h1]
    refine ⟨l, rfl, .refl _, ?_⟩
    match l, h1 with
    | [], _ => exact .nil
    | [x], _ => exact List.pairwise_singleton _ _
  · rw [if_neg h1, if_pos h]
    have hp := pdq_sorts (fun x y : Span => decide (x.From < y.From)) swo_Fr l.toArray 0 l.toArray.size (Lib.bitLen l.toArray.size) true true (Nat.zero_le _) (Nat.le_refl _) (Or.inl rfl)
    rw [List.size_toArray] at hp
    generalize pdq (fun x y : Span => decide (x.From < y.From)) l.toArray 0 l.length (Lib.bitLen l.length) true true = d at hp ⊢
    obtain ⟨⟨p1, p2, p3⟩, p4⟩ := hp
    have p1' : d.size = l.length := by simpa using p1
    have e1 : d.extract 0 l.length = d := by rw [← p1']; simp
    have e2 : l.toArray.extract 0 l.length = l.toArray := by simp
    rw [e1, e2] at p3
    refine ⟨d.toList, rfl, by simpa using p3, ?_⟩
    rw [List.pairwise_iff_getElem]
    intro i j hi hj hij
    have := p4 i j (Nat.zero_le _) hij (by simpa [p1'] using hj)
    have hi' : i < d.size := by simpa using hi
    have hj' : j < d.size := by simpa using hj
    simp only [decide_eq_false_iff_not] at this
    rw [getElem!_pos d j hj', getElem!_pos d i hi'] at this
    simp only [Array.getElem_toList]; omega

/-! ### spans.Make -/
set_option maxHeartbeats 1000000 in
theorem Make_merge (l : List Span) (hl : l.length ≤ 2 ^ 40) (hs : l.Pairwise (fun a b => a.From ≤ b.From)) (hr : ∀ s ∈ l, 0 ≤ s.From ∧ s.From < s.To ∧ s.To ≤ 73049) (Q : Option (List Span) → Prop)
    (hQ : ∀ r, Nrm r → (∀ x, InS r x ↔ InS l x) → r.length ≤ l.length → Q (some r)) : Q (loopC FU (spans_Make_l2 l) ([], 0)) := by
  refine loop_list (f := spans_Make_l2 l) l (fun s i => (s, i)) (fun s i => Nrm s ∧ (∀ x, InS s x ↔ InS (l.take i) x) ∧ s.length ≤ i ∧ ∀ t ∈ s, ∃ u ∈ l.take i, u.From = t.From) Q (by omega) ?_ ?_ [] ⟨Nrm_nil, fun x => by simp, Nat.le_refl _, fun t h => by cases h⟩
  · rintro rec s i y hi hy ⟨h1, h2, h3, h4⟩
    right
    have hyl : y ∈ l := List.mem_of_getElem? hy
    have hyr := hr y hyl
    unfold spans_Make_l2 spans_Make_j2
    dsimp only
    rw [if_pos (by simp; omega), getI_ix hy, Option.bind_some, idx_succ (by omega), take_ix hy]
    have hord : ∀ u ∈ l.take i, u.From ≤ y.From := by
      intro u hu
      have hi' := List.getElem?_eq_getElem hi
      rw [hy] at hi'
      have e : l = l.take i ++ l.drop i := (List.take_append_drop i l).symm
      rw [e, List.pairwise_append] at hs
      refine hs.2.2 u hu y ?_
      rw [Option.some.inj hi', List.drop_eq_getElem_cons hi]; exact List.mem_cons_self ..
    rcases ends s with rfl | ⟨a, t, rfl⟩
    · simp only [List.length_nil, Int.natCast_zero, Int.lt_irrefl, decide_false, Bool.false_eq_true, if_false, Option.bind_some]
      rw [appI_of (by simp), Option.bind_some]
      refine ⟨[y], rfl, ?_, fun x => ?_, by simp, ?_⟩
      · have := Nrm_snoc (a := []) (s := y); simp only [List.nil_append] at this; rw [this]; exact ⟨Nrm_nil, fun t h => (by cases h), hyr⟩
      · have := h2 x
        rw [InS_app, ← this]; simp [InS_nil]
      · intro t ht; rw [List.mem_singleton] at ht; subst ht; exact ⟨t, by simp, rfl⟩
    · obtain ⟨n1, n2, n3⟩ := Nrm_snoc.1 h1
      have hlen : a.length < 2 ^ 62 := by rw [List.length_append] at h3; simp at h3; omega
      have htf : t.From ≤ y.From := by
        obtain ⟨u, hu, he⟩ := h4 t (by simp)
        have := hord u hu; omega
      rw [if_pos (by rw [List.length_append]; simp), last_ix a t hlen, Option.bind_some, Option.bind_some]
      by_cases hc : y.From ≤ t.To
      · rw [if_pos (by simpa using hc), Option.bind_some, Option.bind_some, last_set a t _ hlen]
        refine ⟨a ++ [(⟨t.From, max t.To y.To⟩ : Span)], rfl, ?_, fun x => ?_, by simp at h3 ⊢; omega, ?_⟩
        · rw [Nrm_snoc]; exact ⟨n1, n2, by dsimp only; omega, by dsimp only; omega, by dsimp only; omega⟩
        · have := h2 x
          rw [InS_app, InS_one] at this
          rw [InS_app, InS_app, ← this, InS_one, InS_one]
          dsimp only
          by_cases hax : InS a x
          · simp [hax]
          · simp only [hax, false_or]; omega
        · intro v hv
          rcases List.mem_append.1 hv with hv | hv
          · obtain ⟨u, hu, he⟩ := h4 v (List.mem_append_left _ hv); exact ⟨u, List.mem_append_left _ hu, he⟩
          · rw [List.mem_singleton] at hv; subst hv
            obtain ⟨u, hu, he⟩ := h4 t (by simp); exact ⟨u, List.mem_append_left _ hu, he⟩
      · rw [if_neg (by simpa using hc), appI_of (by simp at h3 ⊢; omega), Option.bind_some]
        refine ⟨a ++ [t] ++ [y], rfl, ?_, fun x => ?_, by simp at h3 ⊢; omega, ?_⟩
        · rw [Nrm_snoc]
          refine ⟨h1, fun v hv => ?_, hyr⟩
          rcases List.mem_append.1 hv with hv | hv
          · have := n2 v hv; omega
          · rw [List.mem_singleton] at hv; subst hv; omega
        · have := h2 x
          rw [InS_app (a := a ++ [t]), InS_app (a := l.take i), this]
        · intro v hv
          rcases List.mem_append.1 hv with hv | hv
          · obtain ⟨u, hu, he⟩ := h4 v hv; exact ⟨u, List.mem_append_left _ hu, he⟩
          · rw [List.mem_singleton] at hv; subst hv
            exact ⟨v, by simp, rfl⟩
  · rintro rec s ⟨h1, h2, h3, _⟩
    rw [List.take_length] at h2
    unfold spans_Make_l2
    dsimp only
    rw [if_neg (by simp)]
    exact hQ s h1 h2 h3
set_option maxHeartbeats 1000000 in
theorem Make_spec (d : List Span) (hd : d.length ≤ 2 ^ 40) : ∃ r, spans_Make d = some r ∧ Nrm r ∧ (∀ x, InS r x ↔ InS d x ∧ 0 ≤ x ∧ x < 73049) ∧ r.length ≤ d.length := by
  unfold spans_Make
  refine loop_list (f := spans_Make_l d) d (fun s i => (i, s)) (fun s i => (∀ u ∈ s, 0 ≤ u.From ∧ u.From < u.To ∧ u.To ≤ 73049) ∧ (∀ x, InS s x ↔ InS (d.take i) x ∧ 0 ≤ x ∧ x < 73049) ∧ s.length ≤ i)
    (fun o => ∃ r, o = some r ∧ Nrm r ∧ (∀ x, InS r x ↔ InS d x ∧ 0 ≤ x ∧ x < 73049) ∧ r.length ≤ d.length) (by omega) ?_ ?_ [] ⟨fun u h => (by cases h), fun x => by simp [InS_nil], Nat.le_refl _⟩
  · rintro rec s i y hi hy ⟨h1, h2, h3⟩
    right
    unfold spans_Make_l spans_Make_j spans_clamp
    dsimp only
    rw [if_pos (by simp; omega), getI_ix hy, Option.bind_some, idx_succ (by omega), Option.bind_some, take_ix hy]
    dsimp only
    by_cases hc : max y.From 0 < min y.To 73049
    · rw [if_pos (by simpa using hc), appI_of (by simp; omega), Option.bind_some]
      refine ⟨s ++ [(⟨max y.From 0, min y.To 73049⟩ : Span)], rfl, fun u hu => ?_, fun x => ?_, by simp; omega⟩
      · rcases List.mem_append.1 hu with hu | hu
        · exact h1 u hu
        · rw [List.mem_singleton] at hu; subst hu; dsimp only; omega
      · rw [InS_app, InS_app, h2 x, InS_one, InS_one]
        dsimp only
        by_cases hax : InS (d.take i) x
        · simp only [hax, true_and, true_or]; omega
        · simp only [hax, false_and, false_or]; omega
    · rw [if_neg (by simpa using hc)]
      refine ⟨s, rfl, h1, fun x => ?_, by omega⟩
      rw [InS_app, h2 x, InS_one]
      by_cases hax : InS (d.take i) x
      · simp only [hax, true_and, true_or]
      · simp only [hax, false_and, false_or]
        refine ⟨fun h => h.elim, fun h => ?_⟩
        omega
  · rintro rec s ⟨h1, h2, h3⟩
    rw [List.take_length] at h2
    unfold spans_Make_l
    dsimp only
    rw [if_neg (by simp)]
    obtain ⟨q, e, hp, hq⟩ := sort_From s (by omega)
    rw [e, Option.bind_some]
    have hql := hp.length_eq
    refine Make_merge q (by omega) hq (fun u hu => h1 u (hp.mem_iff.1 hu)) (fun o => ∃ r, o = some r ∧ Nrm r ∧ (∀ x, InS r x ↔ InS d x ∧ 0 ≤ x ∧ x < 73049) ∧ r.length ≤ d.length) fun r a b c => ⟨r, rfl, a, fun x => ?_, by omega⟩
    rw [b x, InS_perm hp, h2 x]
end Go.PL
