/- Laws SicknessWaitingDays and SicknessMostDays: days counted. No program in sight. -/
import Derived.Test.YtndkbfbjjnhgoaaSpJ
set_option linter.unusedVariables false
namespace Go.PL
open Go Go.Sort

/-! ### counts -/
theorem cnt_run {z : List Span} {a b c : Int} (h0 : a ≤ b) (h : b ≤ c) (hn : ∀ x, b ≤ x → x < c → inB z x = true) : (cnt z a c : Int) = cnt z a b + (c - b) := by
  have key : ∀ n : Nat, (∀ x, b ≤ x → x < b + n → inB z x = true) → (cnt z a (b + n) : Int) = cnt z a b + n := by
    intro n
    induction n with
    | zero => intro _; simp
    | succ n ih =>
      intro hx
      have e : b + ((n + 1 : Nat) : Int) = b + n + 1 := by omega
      rw [e, cnt_succ (by omega), hx _ (by omega) (by omega)]
      have := ih fun x h1 h2 => hx x h1 (by omega)
      simp only [if_true]; omega
  have := key (c - b).toNat (fun x h1 h2 => hn x h1 (by omega))
  rw [show b + ((c - b).toNat : Int) = c by omega] at this
  omega
theorem cnt_mono {z : List Span} {a b c : Int} (h : b ≤ c) : cnt z a b ≤ cnt z a c := by
  have key : ∀ n : Nat, cnt z a b ≤ cnt z a (b + n) := by
    intro n
    induction n with
    | zero => simp
    | succ n ih =>
      have e : b + ((n + 1 : Nat) : Int) = b + n + 1 := by omega
      rw [e]
      by_cases ha : a ≤ b + n
      · rw [cnt_succ ha]; omega
      · have h1 : cnt z a b = 0 := cnt_le (by omega)
        omega
  have := key (c - b).toNat
  rwa [show b + ((c - b).toNat : Int) = c by omega] at this
theorem cnt_neg {z : List Span} (hz : Nrm z) {a : Int} : cnt z a 0 = 0 := by
  apply cnt_zero
  intro x h1 h2
  rw [inB_false]
  intro h
  have := (Nrm_InS hz h).1; omega
/-- The days of a list between two days are those of its part. -/
theorem cnt_part {l p : List Span} (hp : Nrm p) {a b : Int} (h : ∀ x, InS l x ↔ InS p x ∧ (a ≤ x ∧ x < b)) {x : Int} (h0 : 0 ≤ x) (hx : x ≤ b) : cnt l 0 x = cnt p a x := by
  have key : ∀ n : Nat, (n : Int) ≤ b → cnt l 0 n = cnt p a n := by
    intro n
    induction n with
    | zero =>
      intro _
      rw [cnt_le (by simp)]; exact (cnt_neg hp).symm
    | succ n ih =>
      intro hb
      have e : ((n + 1 : Nat) : Int) = (n : Int) + 1 := by omega
      rw [e, cnt_succ (by omega), ih (by omega)]
      by_cases ha : a ≤ (n : Int)
      · rw [cnt_succ ha]
        have : inB l n = inB p n := by
          rw [Bool.eq_iff_iff, inB_iff, inB_iff, h]
          exact ⟨fun g => g.1, fun g => ⟨g, ha, by omega⟩⟩
        rw [this]
      · have h1 : inB l n = false := by
          rw [inB_false, h]; rintro ⟨_, g, _⟩; omega
        rw [h1, cnt_le (b := (n : Int)) (by omega), cnt_le (b := (n : Int) + 1) (by omega)]; rfl
  have := key x.toNat (by omega)
  rwa [show ((x.toNat : Nat) : Int) = x by omega] at this

/-! ### the reference's Days, Prefix, Nth -/
theorem MakeSpans_id {l : List Span} (h : Nrm l) : pensionref1_MakeSpans l = some l := by
  have hl := Nrm_len h
  obtain ⟨r, h1, h2, h3⟩ := combine_spec l [] 2 (by omega) (by simp)
  unfold pensionref1_MakeSpans
  rw [h1, Option.bind_some]
  congr 1
  refine Nrm_uniq h2 h fun x => ?_
  rw [h3, fm2, Bool.or_eq_true, inB_iff, inB_iff]
  constructor
  · rintro ⟨g | g, _⟩
    · exact g
    · exact absurd g InS_nil
  · intro g; exact ⟨.inl g, Nrm_InS h g⟩
/-- Up to the next span there is no day. -/
theorem gap_no {z : List Span} (hz : Nrm z) {i : Nat} {y : Span} (hy : z[i]? = some y) {c : Int} (h1 : ∀ t ∈ z.take i, t.To ≤ c) : ∀ d, c ≤ d → d < y.From → inB z d = false := by
  intro d g1 g2
  rw [inB_false]
  rintro ⟨t, ht, q1, q2⟩
  rcases mem_split hy ht with h' | h' | h'
  · have := h1 t h'; omega
  · subst h'; omega
  · have := (pairs_take hz.2 hy).2 t h'; have := hz.1 y (List.mem_of_getElem? hy); omega
theorem run_yes {z : List Span} {y : Span} (hy : y ∈ z) : ∀ d, y.From ≤ d → d < y.To → inB z d = true := fun d h1 h2 => inB_iff.2 ⟨y, hy, h1, h2⟩
theorem take_next {z : List Span} (hz : Nrm z) {i : Nat} {y : Span} (hy : z[i]? = some y) : ∀ t ∈ z.take (i + 1), t.To ≤ y.To := by
  intro t ht
  have hyr := hz.1 y (List.mem_of_getElem? hy)
  rw [take_ix hy] at ht
  rcases List.mem_append.1 ht with h | h
  · have := (pairs_take hz.2 hy).1 t h; omega
  · rw [List.mem_singleton] at h; subst h; exact Int.le_refl _
theorem take_below {z : List Span} (hz : Nrm z) {i : Nat} {y : Span} (hy : z[i]? = some y) {c : Int} (h : c = 0 ∨ ∃ t ∈ z.take i, c = t.To) : 0 ≤ c ∧ c ≤ y.From := by
  have hyr := hz.1 y (List.mem_of_getElem? hy)
  rcases h with h | ⟨t, ht, h⟩
  · omega
  · have := (pairs_take hz.2 hy).1 t ht
    have := hz.1 t (List.mem_of_mem_take ht); omega
theorem cnt_bound (z : List Span) {x : Int} (h : x ≤ 73049) : (cnt z 0 x : Int) ≤ 73049 := by
  have : ∀ n, cntN z 0 n ≤ n := by
    intro n
    induction n with
    | zero => exact Nat.le_refl _
    | succ n ih => unfold cntN; split <;> omega
  have := this (x - 0).toNat
  unfold cnt; omega
theorem Days_spec {l : List Span} (h : Nrm l) : pensionref1_Days l = some (cnt l 0 73049 : Int) := by
  have hl := Nrm_len h
  unfold pensionref1_Days
  rw [MakeSpans_id h, Option.bind_some]
  refine loop_list (f := pensionref1_Days_l l) l (fun (n : Int) i => (n, i)) (fun n i => ∃ c, (c = 0 ∨ ∃ t ∈ l.take i, c = t.To) ∧ (∀ t ∈ l.take i, t.To ≤ c) ∧ n = (cnt l 0 c : Int) ∧ c ≤ 73049) (fun o => o = some (cnt l 0 73049 : Int)) (by omega) ?_ ?_ 0 ⟨0, .inl rfl, fun t ht => by simp at ht, by rw [cnt_le (Int.le_refl _)]; rfl, by omega⟩
  · rintro rec n i y hi hy ⟨c, c1, c2, rfl, c4⟩
    right
    have hym := List.mem_of_getElem? hy
    have hyr := h.1 y hym
    obtain ⟨b0, b1⟩ := take_below h hy c1
    have e1 : (cnt l 0 y.To : Int) = cnt l 0 c + (y.To - y.From) := by
      rw [cnt_run (by omega) (by omega) (run_yes hym), cnt_skip b1 (gap_no h hy c2)]
    have hb := cnt_bound l (x := y.To) (by omega)
    refine ⟨_, ?_, y.To, .inr ⟨y, by rw [take_ix hy]; simp, rfl⟩, take_next h hy, rfl, hyr.2.2⟩
    unfold pensionref1_Days_l
    dsimp only
    rw [if_pos (by simp; omega), getI_ix hy, Option.bind_some, Option.bind_some, idx_succ (by omega), i64_id (n := y.To - y.From) (by omega) (by omega), i64_id (by omega) (by omega), e1]
  · rintro rec n ⟨c, c1, c2, rfl, c4⟩
    rw [List.take_length] at c2
    unfold pensionref1_Days_l
    dsimp only
    rw [if_neg (by simp), cnt_skip (c := c) (d := 73049) c4]
    intro x g1 g2
    rw [inB_false]
    rintro ⟨t, ht, q1, q2⟩
    have := c2 t ht; omega
theorem Prefix_spec {l : List Span} (h : Nrm l) (n : Nat) (hn : n ≤ 100000) : ∃ r, pensionref1_Prefix l n = some r ∧ r.length ≤ 73049 ∧ ∀ x, InS r x ↔ InS l x ∧ cnt l 0 x < n := by
  have hl := Nrm_len h
  unfold pensionref1_Prefix
  rw [MakeSpans_id h, Option.bind_some]
  have ok : ∀ (out : List Span) (c : Int) (i : Nat), i ≤ l.length → out.length ≤ i → (∀ x, InS out x ↔ InS l x ∧ x < c ∧ cnt l 0 x < n) → (∀ x, InS l x → c ≤ x → n ≤ cnt l 0 x) → ∃ r, some out = some r ∧ r.length ≤ 73049 ∧ ∀ x, InS r x ↔ InS l x ∧ cnt l 0 x < n := by
    intro out c i hi ho h1 h2
    refine ⟨out, rfl, by omega, fun x => ?_⟩
    rw [h1]
    constructor
    · rintro ⟨a, _, b⟩; exact ⟨a, b⟩
    · rintro ⟨a, b⟩
      refine ⟨a, ?_, b⟩
      rcases Int.lt_or_le x c with g | g
      · exact g
      · have := h2 x a g; omega
  refine loop_list (f := pensionref1_Prefix_l l) l (fun (s : Int × List Span) i => (s.1, s.2, i)) (fun s i => ∃ c, (c = 0 ∨ ∃ t ∈ l.take i, c = t.To) ∧ (∀ t ∈ l.take i, t.To ≤ c) ∧ s.1 = n - min (n : Int) (cnt l 0 c : Int) ∧ c ≤ 73049 ∧ s.2.length ≤ i ∧ ∀ x, InS s.2 x ↔ InS l x ∧ x < c ∧ cnt l 0 x < n)
    (fun o => ∃ r, o = some r ∧ r.length ≤ 73049 ∧ ∀ x, InS r x ↔ InS l x ∧ cnt l 0 x < n) (by omega) ?_ ?_ ((n : Int), []) ⟨0, .inl rfl, fun t ht => by simp at ht, by rw [cnt_le (Int.le_refl _)]; simp; omega, by omega, Nat.le_refl _, fun x => ⟨fun g => absurd g InS_nil, fun ⟨g1, g2, _⟩ => by have := (Nrm_InS h g1).1; omega⟩⟩
  · rintro rec ⟨m, out⟩ i y hi hy ⟨c, c1, c2, c3, c4, c5, c6⟩
    dsimp only at c3 c5 c6
    have hym := List.mem_of_getElem? hy
    have hyr := h.1 y hym
    obtain ⟨b0, b1⟩ := take_below h hy c1
    have hno := gap_no h hy c2
    unfold pensionref1_Prefix_l
    dsimp only
    by_cases hm : 0 < m
    · right
      have eF : cnt l 0 y.From = cnt l 0 c := cnt_skip b1 hno
      have eT : (cnt l 0 y.To : Int) = cnt l 0 c + (y.To - y.From) := by rw [cnt_run (by omega) (by omega) (run_yes hym), eF]
      have eX : ∀ x, y.From ≤ x → x ≤ y.To → (cnt l 0 x : Int) = cnt l 0 c + (x - y.From) := fun x h1 h2 => by
        rw [cnt_run (by omega) h1 (fun d d1 d2 => run_yes hym d d1 (by omega)), eF]
      rw [if_pos (by simp; omega), getI_ix hy]
      simp only [Option.bind_some]
      rw [i64_id (n := y.To - y.From) (by omega) (by omega), i64_id (n := y.From + min m (y.To - y.From)) (by omega) (by omega), i64_id (n := m - min m (y.To - y.From)) (by omega) (by omega), appI_of (by simp; omega), Option.bind_some, idx_succ (by omega)]
      refine ⟨(m - min m (y.To - y.From), out ++ [(⟨y.From, y.From + min m (y.To - y.From)⟩ : Span)]), rfl, y.To, .inr ⟨y, by rw [take_ix hy]; simp, rfl⟩, take_next h hy, by dsimp only; omega, hyr.2.2, by simp; omega, fun x => ?_⟩
      dsimp only
      rw [InS_app, InS_one, c6]; dsimp only
      constructor
      · rintro (⟨a, b, d⟩ | ⟨a, b⟩)
        · exact ⟨a, by omega, d⟩
        · have := eX x a (by omega)
          exact ⟨⟨y, hym, a, by omega⟩, by omega, by omega⟩
      · rintro ⟨a, b, d⟩
        rcases Int.lt_or_le x c with g | g
        · exact .inl ⟨a, g, d⟩
        · right
          rcases Int.lt_or_le x y.From with g' | g'
          · have := hno x g g'; rw [inB_iff.2 a] at this; cases this
          · have := eX x g' (by omega); omega
    · left
      rw [if_neg (by simp; omega)]
      refine ok out c i (by omega) c5 c6 fun x _ hx => ?_
      have := cnt_mono (z := l) (a := 0) hx
      omega
  · rintro rec ⟨m, out⟩ ⟨c, c1, c2, c3, c4, c5, c6⟩
    rw [List.take_length] at c2
    unfold pensionref1_Prefix_l
    dsimp only
    rw [if_neg (by simp)]
    refine ok out c _ (Nat.le_refl _) c5 c6 fun x hx hc => ?_
    obtain ⟨t, ht, q1, q2⟩ := hx
    have := c2 t ht; omega
theorem Nth_spec {l : List Span} (h : Nrm l) (n : Int) (hn : 0 ≤ n) (hlt : n < (cnt l 0 73049 : Int)) : ∃ d, pensionref1_Nth l n = some (d, true) ∧ InS l d := by
  have hl := Nrm_len h
  have hb := cnt_bound l (x := 73049) (by omega)
  unfold pensionref1_Nth
  rw [MakeSpans_id h, Option.bind_some]
  refine loop_list (f := pensionref1_Nth_l l) l (fun (n : Int) i => (n, i)) (fun m i => ∃ c, (c = 0 ∨ ∃ t ∈ l.take i, c = t.To) ∧ (∀ t ∈ l.take i, t.To ≤ c) ∧ m = n - (cnt l 0 c : Int) ∧ 0 ≤ m ∧ c ≤ 73049) (fun o => ∃ d, o = some (d, true) ∧ InS l d) (by omega) ?_ ?_ n ⟨0, .inl rfl, fun t ht => by simp at ht, by rw [cnt_le (Int.le_refl _)]; simp, hn, by omega⟩
  · rintro rec m i y hi hy ⟨c, c1, c2, rfl, c4, c5⟩
    have hym := List.mem_of_getElem? hy
    have hyr := h.1 y hym
    obtain ⟨b0, b1⟩ := take_below h hy c1
    have e1 : (cnt l 0 y.To : Int) = cnt l 0 c + (y.To - y.From) := by
      rw [cnt_run (by omega) (by omega) (run_yes hym), cnt_skip b1 (gap_no h hy c2)]
    unfold pensionref1_Nth_l
    dsimp only
    rw [if_pos (by simp; omega), getI_ix hy]
    simp only [Option.bind_some]
    rw [i64_id (n := y.To - y.From) (by omega) (by omega)]
    by_cases hc : n - (cnt l 0 c : Int) < y.To - y.From
    · left
      rw [if_pos (by simpa using hc), i64_id (by omega) (by omega)]
      exact ⟨_, rfl, y, hym, by omega, by omega⟩
    · right
      rw [if_neg (by simpa using hc), idx_succ (by omega), i64_id (by omega) (by omega)]
      exact ⟨_, rfl, y.To, .inr ⟨y, by rw [take_ix hy]; simp, rfl⟩, take_next h hy, by omega, by omega, hyr.2.2⟩
  · rintro rec m ⟨c, c1, c2, rfl, c4, c5⟩
    exfalso
    rw [List.take_length] at c2
    have : cnt l 0 73049 = cnt l 0 c := cnt_skip c5 (by
      intro x g1 g2
      rw [inB_false]
      rintro ⟨t, ht, q1, q2⟩
      have := c2 t ht; omega)
    omega

/-! ### the law of days, counted -/
theorem pz_iff {z sp : List Span} {x d : Int} (hd : 0 ≤ d) : x ∈ pz z sp d ↔ (0 ≤ x ∧ x < d) ∧ inB z x = true ∧ wt z sp x = false ∧ ((pz z sp x).filter (fun y => decide (x - 1094 ≤ y))).length < 546 := by
  have key : ∀ n : Nat, x ∈ pz z sp n ↔ (0 ≤ x ∧ x < n) ∧ inB z x = true ∧ wt z sp x = false ∧ ((pz z sp x).filter (fun y => decide (x - 1094 ≤ y))).length < 546 := by
    intro n
    induction n with
    | zero => constructor
              · intro h; cases h
              · rintro ⟨⟨h1, h2⟩, _⟩; omega
    | succ n ih =>
      have e : ((n + 1 : Nat) : Int) = (n : Int) + 1 := by omega
      rw [e, pz_succ (by omega)]
      by_cases hx : x = n
      · subst hx
        have hno : ¬ (n : Int) ∈ pz z sp n := fun h => by have := pz_mem h; omega
        split
        · rename_i hc
          simp only [Bool.and_eq_true, Bool.not_eq_true', decide_eq_true_eq] at hc
          constructor
          · intro _; exact ⟨⟨by omega, by omega⟩, hc.1.1, hc.1.2, hc.2⟩
          · intro _; simp
        · rename_i hc
          constructor
          · intro h; exact absurd h hno
          · rintro ⟨_, h1, h2, h3⟩; exact absurd (by simp only [Bool.and_eq_true, Bool.not_eq_true', decide_eq_true_eq]; exact ⟨⟨h1, h2⟩, h3⟩) hc
      · have ha : x ∈ (if ((inB z n && !wt z sp n) && decide (((pz z sp n).filter (fun x => decide ((n : Int) - 1094 ≤ x))).length < 546)) = true then pz z sp n ++ [(n : Int)] else pz z sp n) ↔ x ∈ pz z sp n := by
          split
          · simp [hx]
          · exact Iff.rfl
        rw [ha, ih]
        constructor
        · rintro ⟨⟨h1, h2⟩, h3⟩; exact ⟨⟨h1, by omega⟩, h3⟩
        · rintro ⟨⟨h1, h2⟩, h3⟩; exact ⟨⟨h1, by omega⟩, h3⟩
  have := key d.toNat
  rwa [show ((d.toNat : Nat) : Int) = d by omega] at this
theorem filter_le {l : List Int} {a b : Int} (h : a ≤ b) : (l.filter (fun y => decide (b ≤ y))).length ≤ (l.filter (fun y => decide (a ≤ y))).length := by
  rw [← List.countP_eq_length_filter, ← List.countP_eq_length_filter]
  exact List.countP_mono_left fun x _ hx => by simp at hx ⊢; omega
/-- No more than 546 paid days in the window before a day. -/
theorem pz_win {z sp : List Span} {d : Int} (hd : 0 ≤ d) : ((pz z sp d).filter (fun y => decide (d - 1094 ≤ y))).length ≤ 546 := by
  have key : ∀ n : Nat, ((pz z sp n).filter (fun y => decide ((n : Int) - 1094 ≤ y))).length ≤ 546 := by
    intro n
    induction n with
    | zero => exact Nat.zero_le _
    | succ n ih =>
      have e : ((n + 1 : Nat) : Int) = (n : Int) + 1 := by omega
      rw [e, pz_succ (by omega)]
      have hm := filter_le (l := pz z sp n) (a := (n : Int) - 1094) (b := (n : Int) + 1 - 1094) (by omega)
      split
      · rename_i hc
        simp only [Bool.and_eq_true, Bool.not_eq_true', decide_eq_true_eq] at hc
        rw [List.filter_append, List.length_append]
        have := List.length_filter_le (fun y => decide ((n : Int) + 1 - 1094 ≤ y)) [(n : Int)]
        simp only [List.length_cons, List.length_nil] at this
        omega
      · omega
  have := key d.toNat
  rwa [show ((d.toNat : Nat) : Int) = d by omega] at this
/-- The paid days before a day and from another one on, counted. -/
theorem pz_cnt {z sp p : List Span} (hp : ∀ x, InS p x ↔ x ∈ pz z sp 73049) (np : Nrm p) {a d : Int} (hd : 0 ≤ d) (h1 : d ≤ 73049) : cnt p a d = ((pz z sp d).filter (fun y => decide (a ≤ y))).length := by
  have key : ∀ n : Nat, (n : Int) ≤ 73049 → cnt p a n = ((pz z sp n).filter (fun y => decide (a ≤ y))).length := by
    intro n
    induction n with
    | zero => intro _; exact cnt_neg np
    | succ n ih =>
      intro hn
      have e : ((n + 1 : Nat) : Int) = (n : Int) + 1 := by omega
      have ih := ih (by omega)
      rw [e]
      by_cases ha : a ≤ (n : Int)
      · rw [cnt_succ ha, ih, pz_succ (by omega)]
        have hb : inB p n = ((inB z n && !wt z sp n) && decide (((pz z sp n).filter (fun x => decide ((n : Int) - 1094 ≤ x))).length < 546)) := by
          rw [Bool.eq_iff_iff, inB_iff, hp, pz_iff (by omega)]
          simp only [Bool.and_eq_true, Bool.not_eq_true', decide_eq_true_eq]
          constructor
          · rintro ⟨_, h1, h2, h3⟩; exact ⟨⟨h1, h2⟩, h3⟩
          · rintro ⟨⟨h1, h2⟩, h3⟩; exact ⟨⟨by omega, by omega⟩, h1, h2, h3⟩
        rw [hb]
        split
        · rw [List.filter_append, List.length_append]; simp [ha]
        · rfl
      · rw [cnt_le (by omega), List.filter_eq_nil_iff.2]; · rfl
        intro x hx
        have := pz_mem hx
        simp; omega
  have := key d.toNat (by omega)
  rwa [show ((d.toNat : Nat) : Int) = d by omega] at this
/-- No more paid days than sick ones. -/
theorem pz_few {z sp : List Span} {d : Int} (hd : 0 ≤ d) : (pz z sp d).length ≤ cnt z 0 d := by
  have key : ∀ n : Nat, (pz z sp n).length ≤ cnt z 0 n := by
    intro n
    induction n with
    | zero => exact Nat.zero_le _
    | succ n ih =>
      have e : ((n + 1 : Nat) : Int) = (n : Int) + 1 := by omega
      rw [e, pz_succ (by omega), cnt_succ (by omega)]
      split
      · rename_i hc
        simp only [Bool.and_eq_true] at hc
        rw [hc.1.1]; simp; omega
      · omega
  have := key d.toNat
  rwa [show ((d.toNat : Nat) : Int) = d by omega] at this
end Go.PL
