/- Facts of a person: current ones, the life, the spans of a kind, the sick days. No program in sight. -/
import Derived.Test.YtndkbfbjjnhgoaaSpD
set_option linter.unusedVariables false
namespace Go.PL
open Go Go.Sort

def vld (f : api_Fact) : Bool := (pensionref12_Valid f).getD false
def cur (f : api_Fact) : Bool := vld f && !f.Withdrawn
theorem ref_valid (f : api_Fact) : pensionref12_Valid f = some (vld f) := by
  obtain ⟨b, h1, h2, _⟩ := valid_agree f
  unfold vld; rw [h2]; rfl
theorem current_eq (f : api_Fact) : career_current f = some (cur f) := by
  obtain ⟨b, h1, h2, _⟩ := valid_agree f
  unfold career_current cur vld
  rw [h1, h2]; rfl
theorem cur_span {f : api_Fact} (h : cur f = true) : 0 ≤ f.Span.From ∧ f.Span.From < f.Span.To ∧ f.Span.To ≤ 73049 := by
  obtain ⟨b, h1, h2, h3⟩ := valid_agree f
  unfold cur vld at h
  rw [h2] at h
  simp at h
  exact h3 h.1
theorem Current_eq (l : List api_Fact) (hl : l.length ≤ 2 ^ 30) : pensionref12_Current l = some (l.filter cur) := by
  unfold pensionref12_Current
  refine loop_list (f := pensionref12_Current_l l) l (fun s i => (s, i)) (fun s i => s = (l.take i).filter cur) (fun o => o = some (l.filter cur)) (by omega) ?_ ?_ [] (by simp)
  · rintro rec s i y hi hy rfl
    right
    have hlen : ((l.take i).filter cur).length ≤ i := by
      have := List.length_filter_le cur (l.take i); rw [List.length_take] at this; omega
    unfold pensionref12_Current_l pensionref12_Current_j
    dsimp only
    rw [if_pos (by simp; omega), getI_ix hy, Option.bind_some, ref_valid, Option.bind_some, Option.bind_some, ite_and, Option.bind_some, Option.bind_some, idx_succ (by omega), take_ix hy, List.filter_append]
    by_cases hc : (vld y && !y.Withdrawn) = true
    · rw [if_pos hc, appI_of (by simp; omega), Option.bind_some]
      refine ⟨_, rfl, ?_⟩
      have : cur y = true := hc
      simp [this]
    · rw [if_neg hc]
      refine ⟨_, rfl, ?_⟩
      have : cur y = false := by rw [Bool.not_eq_true] at hc; exact hc
      simp [this]
  · rintro rec s rfl
    unfold pensionref12_Current_l
    dsimp only
    rw [if_neg (by simp), List.take_length]

def fstep (kind : Int) (s : Int × Bool) (y : api_Fact) : Int × Bool := if (y.Kind == kind) && (!s.2 || decide (y.Span.From < s.1)) then (y.Span.From, true) else s
theorem foldl_take {α β : Type} {g : β → α → β} {l : List α} {i : Nat} {y : α} {b : β} (h : l[i]? = some y) : (l.take (i + 1)).foldl g b = g ((l.take i).foldl g b) y := by
  rw [take_ix h, List.foldl_append]; rfl
theorem first_eq (l : List api_Fact) (kind : Int) (hl : l.length ≤ 2 ^ 30) : career_first l kind = some ((l.filter cur).foldl (fstep kind) (0, false)) := by
  rw [List.foldl_filter]
  unfold career_first
  refine loop_list (f := career_first_l l kind) l (fun (s : Int × Bool) i => (s.1, s.2, i)) (fun s i => s = (l.take i).foldl (fun x y => if cur y = true then fstep kind x y else x) (0, false)) (fun o => o = some (l.foldl (fun x y => if cur y = true then fstep kind x y else x) (0, false))) (by omega) ?_ ?_ (0, false) (by simp)
  · rintro rec s i y hi hy rfl
    right
    generalize hS : (l.take i).foldl (fun x y => if cur y = true then fstep kind x y else x) (0, false) = S
    refine ⟨if cur y = true then fstep kind S y else S, ?_, by rw [foldl_take hy, hS]⟩
    unfold career_first_l career_first_j
    dsimp only
    rw [if_pos (by simp; omega), getI_ix hy, Option.bind_some, current_eq, Option.bind_some, idx_succ (by omega)]
    unfold fstep
    cases cur y
    · simp
    · simp only [Bool.true_and, if_true]
      by_cases hc : (y.Kind == kind && (!S.2 || decide (y.Span.From < S.1))) = true
      · rw [if_pos hc, if_pos hc]
      · rw [if_neg hc, if_neg hc]
  · rintro rec s rfl
    unfold career_first_l
    dsimp only
    rw [if_neg (by simp), List.take_length]
theorem least_eq' (l : List api_Fact) (kind : Int) (hl : l.length ≤ 2 ^ 30) : pensionref12_least l kind = some ((l.filter cur).foldl (fstep kind) (0, false)) := by
  have hq : (l.filter cur).length ≤ 2 ^ 30 := Nat.le_trans (List.length_filter_le cur l) hl
  unfold pensionref12_least
  rw [Current_eq l hl, Option.bind_some]
  generalize l.filter cur = q at hq
  refine loop_list (f := pensionref12_least_l kind q) q (fun (s : Int × Bool) i => (s.1, s.2, i)) (fun s i => s = (q.take i).foldl (fstep kind) (0, false)) (fun o => o = some (q.foldl (fstep kind) (0, false))) (by omega) ?_ ?_ (0, false) (by simp)
  · rintro rec s i y hi hy rfl
    right
    generalize hS : (q.take i).foldl (fstep kind) (0, false) = S
    refine ⟨fstep kind S y, ?_, by rw [foldl_take hy, hS]⟩
    unfold pensionref12_least_l pensionref12_least_j
    dsimp only
    rw [if_pos (by simp; omega)]
    simp only [getI_ix hy, Option.bind_some, ite_or, ite_and]
    rw [idx_succ (by omega)]
    unfold fstep
    by_cases hc : (y.Kind == kind && (!S.2 || decide (y.Span.From < S.1))) = true
    · rw [if_pos hc, if_pos hc]
    · rw [if_neg hc, if_neg hc]
  · rintro rec s rfl
    unfold pensionref12_least_l
    dsimp only
    rw [if_neg (by simp), List.take_length]
theorem Life_agree (l : List api_Fact) (hl : l.length ≤ 2 ^ 30) : ∃ s, career_Life l = some s ∧ pensionref12_Life l = some s := by
  unfold career_Life pensionref12_Life career_Birth career_Death pensionref12_Birth pensionref12_Death career_Life_j pensionref12_Life_j
  simp only [first_eq l _ hl, least_eq' l _ hl, Option.bind_some]
  generalize (l.filter cur).foldl (fstep 11) (0, false) = A
  generalize (l.filter cur).foldl (fstep 12) (0, false) = B
  split <;> split <;> exact ⟨_, rfl, rfl⟩

def spl (l : List api_Fact) (kind st : Int) : List Span := ((l.filter cur).filter (fun y => y.Kind == kind && y.State == st)).map (·.Span)
theorem spl_len (l : List api_Fact) (k s : Int) : (spl l k s).length ≤ l.length := by
  unfold spl; rw [List.length_map]
  exact Nat.le_trans (List.length_filter_le _ _) (List.length_filter_le _ _)
theorem Spans_agree (l : List api_Fact) (kind st : Int) (hl : l.length ≤ 2 ^ 30) : ∃ r, career_Spans l kind st = some r ∧ pensionref12_Spans l kind st = some r ∧ Nrm r := by
  obtain ⟨s, h1, h2⟩ := Life_agree l hl
  have hsl := spl_len l kind st
  obtain ⟨r, c1, n1, m1⟩ := Clip_spec (spl l kind st) s (by omega)
  obtain ⟨r', c2, n2, m2⟩ := combine_spec (spl l kind st) [s] 1 (by omega) (by simp)
  have hrr : r' = r := by
    refine Nrm_uniq n2 n1 fun x => ?_
    rw [m1, m2]
    unfold fm
    have e : (((((1 : Int) == 1) && inB (spl l kind st) x) && inB [s] x) || (((1 : Int) == 2) && (inB (spl l kind st) x || inB [s] x)) || (((1 : Int) == 3) && inB (spl l kind st) x) && (!inB [s] x)) = (inB (spl l kind st) x && inB [s] x) := by simp
    rw [e, Bool.and_eq_true, inB_iff, inB_iff, InS_one]
    constructor
    · rintro ⟨⟨a, b⟩, c⟩; exact ⟨a, b, c⟩
    · rintro ⟨a, b, c⟩; exact ⟨⟨a, b⟩, c⟩
  subst hrr
  refine ⟨r', ?_, ?_, n2⟩
  · unfold career_Spans
    refine loop_list (f := career_Spans_l l kind st) l (fun s i => (s, i)) (fun s i => s = spl (l.take i) kind st) (fun o => o = some r') (by omega) ?_ ?_ [] (by simp [spl])
    · rintro rec q i y hi hy rfl
      right
      have hlen : (spl (l.take i) kind st).length ≤ i := by
        have := spl_len (l.take i) kind st; rw [List.length_take] at this; omega
      unfold career_Spans_l career_Spans_j
      dsimp only
      rw [if_pos (by simp; omega), getI_ix hy, Option.bind_some, current_eq, Option.bind_some, idx_succ (by omega), take_ix hy]
      have e : spl (l.take i ++ [y]) kind st = spl (l.take i) kind st ++ spl [y] kind st := by unfold spl; rw [List.filter_append, List.filter_append, List.map_append]
      rw [e]
      by_cases hc : ((cur y && (y.Kind == kind)) && (y.State == st)) = true
      · rw [if_pos hc, appI_of (by simp; omega), Option.bind_some]
        refine ⟨_, rfl, ?_⟩
        simp only [Bool.and_eq_true] at hc
        simp [spl, hc.1.1, hc.1.2, hc.2]
      · rw [if_neg hc]
        refine ⟨_, rfl, ?_⟩
        have : spl [y] kind st = [] := by
          unfold spl
          cases h1 : cur y <;> cases h2 : (y.Kind == kind) <;> cases h3 : (y.State == st) <;> simp [h1, h2, h3] at hc ⊢
        rw [this, List.append_nil]
    · rintro rec q rfl
      unfold career_Spans_l
      dsimp only
      rw [if_neg (by simp), List.take_length, h1, Option.bind_some, c1]; rfl
  · unfold pensionref12_Spans
    rw [Current_eq l hl, Option.bind_some]
    have hq : (l.filter cur).length ≤ 2 ^ 30 := Nat.le_trans (List.length_filter_le cur l) hl
    have hc2 : pensionref1_Clip (spl l kind st) s = some r' := by unfold pensionref1_Clip; rw [c2]; rfl
    unfold spl at hc2
    generalize l.filter cur = q at hq hc2
    refine loop_list (f := pensionref12_Spans_l l kind st q) q (fun s i => (s, i)) (fun s i => s = ((q.take i).filter (fun y => y.Kind == kind && y.State == st)).map (·.Span)) (fun o => o = some r') (by omega) ?_ ?_ [] (by simp)
    · rintro rec v i y hi hy rfl
      right
      have hlen : (((q.take i).filter (fun y => y.Kind == kind && y.State == st)).map (·.Span)).length ≤ i := by
        rw [List.length_map]
        have := List.length_filter_le (fun y : api_Fact => y.Kind == kind && y.State == st) (q.take i); rw [List.length_take] at this; omega
      unfold pensionref12_Spans_l pensionref12_Spans_j
      dsimp only
      rw [if_pos (by simp; omega)]
      simp only [getI_ix hy, Option.bind_some, ite_and]
      rw [idx_succ (by omega), take_ix hy, List.filter_append, List.map_append]
      by_cases hc : ((y.Kind == kind) && (y.State == st)) = true
      · rw [if_pos hc, appI_of (by simp at hlen ⊢; omega), Option.bind_some]
        refine ⟨_, rfl, ?_⟩
        simp only [List.filter_cons, hc, List.filter_nil, if_true, List.map_cons, List.map_nil]
      · rw [if_neg hc]
        refine ⟨_, rfl, ?_⟩
        rw [Bool.not_eq_true] at hc
        simp only [List.filter_cons, hc, List.filter_nil, Bool.false_eq_true, if_false, List.map_nil, List.append_nil]
    · rintro rec v rfl
      unfold pensionref12_Spans_l
      dsimp only
      rw [if_neg (by simp), List.take_length, h2, Option.bind_some, hc2]; rfl

theorem fm2 (u v : Bool) : fm 2 u v = (u || v) := by unfold fm; simp
theorem Union_spec (a b : List Span) (ha : a.length ≤ 2 ^ 40) (hb : b.length ≤ 2 ^ 40) :
    ∃ r, pensionref1_Union a b = some r ∧ Nrm r ∧ ∀ x, InS r x ↔ (InS a x ∨ InS b x) ∧ 0 ≤ x ∧ x < 73049 := by
  obtain ⟨r, h1, h2, h3⟩ := combine_spec a b 2 ha hb
  refine ⟨r, by unfold pensionref1_Union; rw [h1]; rfl, h2, fun x => ?_⟩
  rw [h3, fm2, Bool.or_eq_true, inB_iff, inB_iff]
theorem Sick_agree (l : List api_Fact) (hl : l.length ≤ 2 ^ 30) : ∃ z, sickness_Sick l = some z ∧ pensionref21_Sick l = some z ∧ Nrm z := by
  have hS : ∀ j : Nat, ∃ r, career_Spans l 8 (j : Int) = some r ∧ pensionref12_Spans l 8 (j : Int) = some r ∧ Nrm r := fun j => Spans_agree l 8 j hl
  let sp : Nat → List Span := fun j => (career_Spans l 8 (j : Int)).getD []
  have s1 : ∀ j : Nat, career_Spans l 8 (j : Int) = some (sp j) := fun j => by
    obtain ⟨r, h1, h2, h3⟩ := hS j; show _ = some ((career_Spans l 8 (j : Int)).getD []); rw [h1]; rfl
  have s2 : ∀ j : Nat, pensionref12_Spans l 8 (j : Int) = some (sp j) := fun j => by
    obtain ⟨r, h1, h2, h3⟩ := hS j; show _ = some ((career_Spans l 8 (j : Int)).getD []); rw [h1, h2]; rfl
  have s3 : ∀ j : Nat, Nrm (sp j) := fun j => by
    obtain ⟨r, h1, h2, h3⟩ := hS j; show Nrm ((career_Spans l 8 (j : Int)).getD []); rw [h1]; exact h3
  clear_value sp
  obtain ⟨z, a1, a2, a3⟩ : ∃ z, sickness_Sick l = some z ∧ Nrm z ∧ ∀ x, InS z x ↔ ∃ j, j < 6 ∧ InS (sp j) x := by
    unfold sickness_Sick
    refine loopC_FU (f := sickness_Sick_l l) (fun st => ∃ (q : List Span) (k : Nat), st = (q, (k : Int)) ∧ k ≤ 6 ∧ q.length ≤ k * 73049 ∧ ∀ x, InS q x ↔ ∃ j, j < k ∧ InS (sp j) x) (fun st => 6 - st.2.toNat) _
      ⟨[], 0, rfl, Nat.zero_le _, Nat.zero_le _, fun x => ⟨fun h => absurd h InS_nil, fun ⟨j, h, _⟩ => absurd h (Nat.not_lt_zero _)⟩⟩ (by dsimp only; omega) ?_
    rintro st rec ⟨q, k, rfl, hk, hq, m⟩
    unfold sickness_Sick_l
    dsimp only
    have hsk := Nrm_len (s3 k)
    by_cases hc : k < 6
    · right
      rw [if_pos (by simp; omega), s1, Option.bind_some, appI_of (by omega), Option.bind_some, idx_succ (by omega)]
      refine ⟨_, rfl, ⟨_, k + 1, rfl, by omega, by rw [List.length_append]; omega, fun x => ?_⟩, by simp only [Int.toNat_natCast]; omega⟩
      rw [InS_app, m]
      constructor
      · rintro (⟨j, h1, h2⟩ | h)
        · exact ⟨j, by omega, h2⟩
        · exact ⟨k, by omega, h⟩
      · rintro ⟨j, h1, h2⟩
        by_cases hj : j = k
        · subst hj; exact .inr h2
        · exact .inl ⟨j, by omega, h2⟩
    · left
      have : k = 6 := by omega
      subst this
      rw [if_neg (by simp)]
      obtain ⟨r, h1, h2, h3, _⟩ := Make_spec q (by omega)
      rw [h1, Option.bind_some]
      refine ⟨r, rfl, h2, fun x => ?_⟩
      rw [h3, m]
      refine ⟨fun h => h.1, fun h => ⟨h, ?_⟩⟩
      obtain ⟨j, _, h⟩ := h
      exact Nrm_InS (s3 j) h
  obtain ⟨z', b1, b2, b3⟩ : ∃ z, pensionref21_Sick l = some z ∧ Nrm z ∧ ∀ x, InS z x ↔ ∃ j, j < 6 ∧ InS (sp j) x := by
    unfold pensionref21_Sick
    refine loopC_FU (f := pensionref21_Sick_l l) (fun st => ∃ (q : List Span) (k : Nat), st = (q, (k : Int)) ∧ k ≤ 6 ∧ Nrm q ∧ ∀ x, InS q x ↔ ∃ j, j < k ∧ InS (sp j) x) (fun st => 6 - st.2.toNat) _
      ⟨[], 0, rfl, Nat.zero_le _, Nrm_nil, fun x => ⟨fun h => absurd h InS_nil, fun ⟨j, h, _⟩ => absurd h (Nat.not_lt_zero _)⟩⟩ (by dsimp only; omega) ?_
    rintro st rec ⟨q, k, rfl, hk, hq, m⟩
    unfold pensionref21_Sick_l
    dsimp only
    have hsk := Nrm_len (s3 k)
    have hql := Nrm_len hq
    by_cases hc : k < 6
    · right
      obtain ⟨r, h1, h2, h3⟩ := Union_spec q (sp k) (by omega) (by omega)
      rw [if_pos (by simp; omega), s2, Option.bind_some, h1, Option.bind_some, idx_succ (by omega)]
      refine ⟨_, rfl, ⟨r, k + 1, rfl, by omega, h2, fun x => ?_⟩, by simp only [Int.toNat_natCast]; omega⟩
      rw [h3, m]
      constructor
      · rintro ⟨⟨j, h1, h2⟩ | h, _⟩
        · exact ⟨j, by omega, h2⟩
        · exact ⟨k, by omega, h⟩
      · rintro ⟨j, h1, h2⟩
        refine ⟨?_, Nrm_InS (s3 j) h2⟩
        by_cases hj : j = k
        · subst hj; exact .inr h2
        · exact .inl ⟨j, by omega, h2⟩
    · left
      have : k = 6 := by omega
      subst this
      rw [if_neg (by simp)]
      exact ⟨q, rfl, hq, m⟩
  have : z' = z := Nrm_uniq b2 a2 fun x => by rw [a3, b3]
  subst this
  exact ⟨z', a1, b1, a2⟩
end Go.PL
