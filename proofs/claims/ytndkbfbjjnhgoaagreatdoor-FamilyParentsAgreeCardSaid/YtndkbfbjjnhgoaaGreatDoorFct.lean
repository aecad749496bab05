/- Facts of a person: current ones, the first of a kind, the life. No program in sight. -/
import Derived.Test.YtndkbfbjjnhgoaaGreatDoorVal
set_option linter.unusedVariables false
namespace Go.PL
open Go

def vld (f : api_Fact) : Bool := (pensionref12_Valid f).getD false
def cur (f : api_Fact) : Bool := vld f && !f.Withdrawn
theorem ref_valid (f : api_Fact) : pensionref12_Valid f = some (vld f) := by
  obtain ⟨b, h1, h2, _⟩ := valid_agree f
  unfold vld; rw [h2]; rfl
theorem current_eq (f : api_Fact) : career_current f = some (cur f) := by
  obtain ⟨b, h1, h2, _⟩ := valid_agree f
  unfold career_current cur vld
  rw [h1, h2]; rfl
theorem cur_span {f : api_Fact} (h : cur f = true) : 0 ≤ f.Span.From ∧ f.Span.From < f.Span.To ∧ f.Span.To ≤ 73049 := by
  obtain ⟨b, h1, h2, h3⟩ := valid_agree f
  unfold cur vld at h
  rw [h2] at h
  simp at h
  exact h3 h.1
theorem Current_eq (l : List api_Fact) (hl : l.length ≤ 2 ^ 30) : pensionref12_Current l = some (l.filter cur) := by
  unfold pensionref12_Current
  refine loop_list (f := pensionref12_Current_l l) l (fun s i => (s, i)) (fun s i => s = (l.take i).filter cur) (fun o => o = some (l.filter cur)) (by omega) ?_ ?_ [] (by simp)
  · rintro rec s i y hi hy rfl
    right
    have hlen : ((l.take i).filter cur).length ≤ i := by
      have := List.length_filter_le cur (l.take i); rw [List.length_take] at this; omega
    unfold pensionref12_Current_l pensionref12_Current_j
    dsimp only
    rw [if_pos (by simp; omega), getI_ix hy, Option.bind_some, ref_valid, Option.bind_some, Option.bind_some, ite_and, Option.bind_some, Option.bind_some, idx_succ (by omega), take_ix hy, List.filter_append]
    by_cases hc : (vld y && !y.Withdrawn) = true
    · rw [if_pos hc, appI_of (by simp; omega), Option.bind_some]
      refine ⟨_, rfl, ?_⟩
      have : cur y = true := hc
      simp [this]
    · rw [if_neg hc]
      refine ⟨_, rfl, ?_⟩
      have : cur y = false := by rw [Bool.not_eq_true] at hc; exact hc
      simp [this]
  · rintro rec s rfl
    unfold pensionref12_Current_l
    dsimp only
    rw [if_neg (by simp), List.take_length]

def fstep (kind : Int) (s : Int × Bool) (y : api_Fact) : Int × Bool := if (y.Kind == kind) && (!s.2 || decide (y.Span.From < s.1)) then (y.Span.From, true) else s
theorem first_eq (l : List api_Fact) (kind : Int) (hl : l.length ≤ 2 ^ 30) : career_first l kind = some ((l.filter cur).foldl (fstep kind) (0, false)) := by
  rw [List.foldl_filter]
  unfold career_first
  refine loop_list (f := career_first_l l kind) l (fun (s : Int × Bool) i => (s.1, s.2, i)) (fun s i => s = (l.take i).foldl (fun x y => if cur y = true then fstep kind x y else x) (0, false)) (fun o => o = some (l.foldl (fun x y => if cur y = true then fstep kind x y else x) (0, false))) (by omega) ?_ ?_ (0, false) (by simp)
  · rintro rec s i y hi hy rfl
    right
    generalize hS : (l.take i).foldl (fun x y => if cur y = true then fstep kind x y else x) (0, false) = S
    refine ⟨if cur y = true then fstep kind S y else S, ?_, by rw [foldl_take hy, hS]⟩
    unfold career_first_l career_first_j
    dsimp only
    rw [if_pos (by simp; omega), getI_ix hy, Option.bind_some, current_eq, Option.bind_some, idx_succ (by omega)]
    unfold fstep
    cases cur y
    · simp
    · simp only [Bool.true_and, if_true]
      by_cases hc : (y.Kind == kind && (!S.2 || decide (y.Span.From < S.1))) = true
      · rw [if_pos hc, if_pos hc]
      · rw [if_neg hc, if_neg hc]
  · rintro rec s rfl
    unfold career_first_l
    dsimp only
    rw [if_neg (by simp), List.take_length]
theorem least_eq' (l : List api_Fact) (kind : Int) (hl : l.length ≤ 2 ^ 30) : pensionref12_least l kind = some ((l.filter cur).foldl (fstep kind) (0, false)) := by
  have hq : (l.filter cur).length ≤ 2 ^ 30 := Nat.le_trans (List.length_filter_le cur l) hl
  unfold pensionref12_least
  rw [Current_eq l hl, Option.bind_some]
  generalize l.filter cur = q at hq
  refine loop_list (f := pensionref12_least_l kind q) q (fun (s : Int × Bool) i => (s.1, s.2, i)) (fun s i => s = (q.take i).foldl (fstep kind) (0, false)) (fun o => o = some (q.foldl (fstep kind) (0, false))) (by omega) ?_ ?_ (0, false) (by simp)
  · rintro rec s i y hi hy rfl
    right
    generalize hS : (q.take i).foldl (fstep kind) (0, false) = S
    refine ⟨fstep kind S y, ?_, by rw [foldl_take hy, hS]⟩
    unfold pensionref12_least_l pensionref12_least_j
    dsimp only
    rw [if_pos (by simp; omega)]
    simp only [getI_ix hy, Option.bind_some, ite_or, ite_and]
    rw [idx_succ (by omega)]
    unfold fstep
    by_cases hc : (y.Kind == kind && (!S.2 || decide (y.Span.From < S.1))) = true
    · rw [if_pos hc, if_pos hc]
    · rw [if_neg hc, if_neg hc]
  · rintro rec s rfl
    unfold pensionref12_least_l
    dsimp only
    rw [if_neg (by simp), List.take_length]
theorem Life_agree (l : List api_Fact) (hl : l.length ≤ 2 ^ 30) : ∃ s, career_Life l = some s ∧ pensionref12_Life l = some s := by
  unfold career_Life pensionref12_Life career_Birth career_Death pensionref12_Birth pensionref12_Death career_Life_j pensionref12_Life_j
  simp only [first_eq l _ hl, least_eq' l _ hl, Option.bind_some]
  generalize (l.filter cur).foldl (fstep 11) (0, false) = A
  generalize (l.filter cur).foldl (fstep 12) (0, false) = B
  split <;> split <;> exact ⟨_, rfl, rfl⟩
end Go.PL
