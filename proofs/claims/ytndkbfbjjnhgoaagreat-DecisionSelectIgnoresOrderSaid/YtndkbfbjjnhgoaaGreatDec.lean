/- Starts of claims, valid claims. Plain Lean. -/
import Derived.Test.YtndkbfbjjnhgoaaGreatCal
set_option linter.unusedSimpArgs false
set_option linter.unusedVariables false
namespace Go.PL
open Go

/-- What a start is: the first month that begins on the day or later. -/
def startSpec (d : Int) (r : Int × Bool) : Prop :=
  (r = (0, false) ∧ (¬ (0 ≤ d ∧ d ≤ 73048) ∨ S 2399 < d)) ∨ ∃ m : Nat, m < 2400 ∧ r = ((m : Int), true) ∧ 0 ≤ d ∧ d ≤ 73048 ∧ d ≤ S m ∧ (m = 0 ∨ S (m - 1) < d)
theorem Start_eq (c : Claim) : ∃ r, decision_Start c = some r ∧ pensionref26_Start c = some r ∧ startSpec c.Day r := by
  by_cases hd : 0 ≤ c.Day ∧ c.Day ≤ 73048
  · have h24 := S_2400
    obtain ⟨m, hm, h1, h2⟩ := month_of 2400 hd.1 (by omega)
    have hv : (decide (0 ≤ c.Day) && decide (c.Day ≤ 73048)) = true := by rw [Bool.and_eq_true]; exact ⟨decide_eq_true hd.1, decide_eq_true hd.2⟩
    have hvm : (decide (0 ≤ (m : Int)) && decide ((m : Int) ≤ 2399)) = true := by rw [Bool.and_eq_true]; exact ⟨decide_eq_true (by omega), decide_eq_true (by omega)⟩
    have e1 : decide ((m : Int) < 0) = false := by simp
    unfold decision_Start pensionref26_Start pensionref1_Month pensionref1_ValidDay pensionref1_MonthStart pensionref1_ValidMonth
    rw [cal_Month hm h1 h2, ref_monthAt hd.1 (by omega) h1 h2]
    simp only [Option.bind_some, hv, Bool.not_true, Bool.false_eq_true, if_false, e1, hvm]
    rw [cal_MonthStart hm, ref_start m (by omega)]
    simp only [Option.bind_some]
    unfold decision_Start_j pensionref26_Start_j pensionref1_ValidMonth
    by_cases h3 : S m < c.Day
    · have e9 : decide (S m < c.Day) = true := decide_eq_true h3
      simp only [e9, if_true]
      rw [i64_id (n := (m : Int) + 1) (by omega) (by omega)]
      by_cases h4 : m = 2399
      · subst h4
        exact ⟨(0, false), rfl, rfl, .inl ⟨rfl, .inr h3⟩⟩
      · have e2 : decide (2399 < (m : Int) + 1) = false := by rw [decide_eq_false_iff_not]; omega
        have e3 : (decide (0 ≤ (m : Int) + 1) && decide ((m : Int) + 1 ≤ 2399)) = true := by rw [Bool.and_eq_true]; exact ⟨decide_eq_true (by omega), decide_eq_true (by omega)⟩
        simp only [e2, e3, Option.bind_some, Bool.not_true, Bool.false_eq_true, if_false]
        exact ⟨_, rfl, rfl, .inr ⟨m + 1, by omega, by simp, hd.1, hd.2, by omega, .inr (by simpa using h3)⟩⟩
    · have e9 : decide (S m < c.Day) = false := decide_eq_false h3
      simp only [e9, Bool.false_eq_true, if_false]
      have e2 : decide (2399 < (m : Int)) = false := by rw [decide_eq_false_iff_not]; omega
      simp only [e2, hvm, Option.bind_some, Bool.not_true, Bool.false_eq_true, if_false]
      refine ⟨_, rfl, rfl, .inr ⟨m, hm, rfl, hd.1, hd.2, by omega, ?_⟩⟩
      by_cases h0 : m = 0
      · exact .inl h0
      · right
        have := S_lt (show m - 1 < m by omega)
        omega
  · have hv : (decide (0 ≤ c.Day) && decide (c.Day ≤ 73048)) = false := by
      rw [Bool.and_eq_false_iff, decide_eq_false_iff_not, decide_eq_false_iff_not]; omega
    unfold decision_Start pensionref26_Start pensionref1_Month pensionref1_ValidDay
    rw [cal_Month_bad hd]
    simp only [hv, Option.bind_some, Bool.not_false, if_true]
    exact ⟨(0, false), rfl, rfl, .inl ⟨rfl, .inl hd⟩⟩
/-- When a claim's fields are in order. -/
def claimOK (c : Claim) : Prop := (0 ≤ c.Issuer ∧ c.Issuer ≤ 5) ∧ (1 ≤ c.Number ∧ c.Number ≤ 999) ∧ (1 ≤ c.Person ∧ c.Person ≤ 99) ∧
  (((c.Benefit = 3 ∨ c.Benefit = 4) ∧ 1 ≤ c.Ref ∧ c.Ref ≤ 99 ∧ c.Ref ≠ c.Person) ∨ ((c.Benefit = 1 ∨ c.Benefit = 2 ∨ c.Benefit = 5) ∧ c.Ref = 0))
instance (c : Claim) : Decidable (claimOK c) := by unfold claimOK; infer_instance
theorem Valid_dec (c : Claim) : ∃ r, decision_Start c = some r ∧ decision_Valid c = some (decide (claimOK c) && r.2) := by
  obtain ⟨r, h1, _, _⟩ := Start_eq c
  refine ⟨r, h1, ?_⟩
  unfold decision_Valid decision_Valid_j2 decision_Valid_j3 decision_Valid_j
  rw [h1]
  simp only [Option.bind_some]
  have key : ∀ p : Bool, (claimOK c → p = true) → (¬ claimOK c → p = false) → p = decide (claimOK c) := fun p a b => by
    by_cases h : claimOK c
    · rw [a h, decide_eq_true h]
    · rw [b h, decide_eq_false h]
  by_cases a1 : 0 ≤ c.Issuer ∧ c.Issuer ≤ 5 ∧ 1 ≤ c.Number ∧ c.Number ≤ 999 ∧ 1 ≤ c.Person ∧ c.Person ≤ 99
  · rw [if_neg (by simp; omega)]
    by_cases b : c.Benefit = 3 ∨ c.Benefit = 4
    · have e : (if (c.Benefit == 3) = true then (c.Benefit == 3) else (c.Benefit == 4)) = true := by
        rcases b with b | b <;> simp [b]
      by_cases a2 : 1 ≤ c.Ref ∧ c.Ref ≤ 99 ∧ c.Ref ≠ c.Person
      · have hok : claimOK c := ⟨⟨a1.1, a1.2.1⟩, ⟨a1.2.2.1, a1.2.2.2.1⟩, ⟨a1.2.2.2.2.1, a1.2.2.2.2.2⟩, .inl ⟨b, a2⟩⟩
        have e2 : ((decide (c.Ref < 1) || decide (99 < c.Ref)) || (c.Ref == c.Person)) = false := by
          simp only [Bool.or_eq_false_iff, decide_eq_false_iff_not, beq_eq_false_iff_ne]; exact ⟨⟨by omega, by omega⟩, a2.2.2⟩
        rcases b with b | b <;> simp [b, e2, hok]
      · have hok : ¬ claimOK c := by
          rintro ⟨_, _, _, h | h⟩
          · exact a2 h.2
          · omega
        have e2 : ((decide (c.Ref < 1) || decide (99 < c.Ref)) || (c.Ref == c.Person)) = true := by
          simp only [Bool.or_eq_true, decide_eq_true_eq, beq_iff_eq]; omega
        rcases b with b | b <;> simp [b, e2, hok]
    · have b3 : (c.Benefit == 3) = false := by simp; omega
      have b4 : (c.Benefit == 4) = false := by simp; omega
      simp only [b3, b4, Bool.false_eq_true, if_false]
      by_cases b' : c.Benefit = 1 ∨ c.Benefit = 2 ∨ c.Benefit = 5
      · by_cases a2 : c.Ref = 0
        · have hok : claimOK c := ⟨⟨a1.1, a1.2.1⟩, ⟨a1.2.2.1, a1.2.2.2.1⟩, ⟨a1.2.2.2.2.1, a1.2.2.2.2.2⟩, .inr ⟨b', a2⟩⟩
          rcases b' with b' | b' | b' <;> simp [b', a2, hok]
        · have hok : ¬ claimOK c := by
            rintro ⟨_, _, _, h | h⟩
            · omega
            · exact a2 h.2
          rcases b' with b' | b' | b' <;> simp [b', a2, hok]
      · have hok : ¬ claimOK c := by rintro ⟨_, _, _, h | h⟩ <;> omega
        have b1 : (c.Benefit == 1) = false := by simp; omega
        have b2 : (c.Benefit == 2) = false := by simp; omega
        have b5 : (c.Benefit == 5) = false := by simp; omega
        simp [b1, b2, b5, hok]
  · have hok : ¬ claimOK c := by rintro ⟨h1, h2, h3, _⟩; omega
    rw [if_pos (by simp; omega)]
    simp [hok]
theorem Valid_ref (c : Claim) : ∃ r, pensionref26_Start c = some r ∧ pensionref26_Valid c = some (decide (claimOK c) && r.2) := by
  obtain ⟨r, _, h1, _⟩ := Start_eq c
  refine ⟨r, h1, ?_⟩
  unfold pensionref26_Valid
  rw [h1]
  simp only [Option.bind_some]
  by_cases hr : r.2 = true
  · rw [hr, Bool.and_true]
    by_cases a1 : 0 ≤ c.Issuer ∧ c.Issuer ≤ 5 ∧ 1 ≤ c.Number ∧ c.Number ≤ 999 ∧ 1 ≤ c.Person ∧ c.Person ≤ 99 ∧ 1 ≤ c.Benefit ∧ c.Benefit ≤ 5
    · rw [if_neg (by simp; omega)]
      by_cases b : c.Benefit = 3 ∨ c.Benefit = 4
      · rw [if_pos (by simpa using b)]
        congr 1
        rw [Bool.eq_iff_iff]
        simp only [Bool.and_eq_true, decide_eq_true_eq, bne_iff_ne]
        unfold claimOK
        constructor
        · intro h; exact ⟨by omega, by omega, by omega, .inl ⟨b, h.1.1, h.1.2, h.2⟩⟩
        · rintro ⟨_, _, _, h | h⟩
          · exact ⟨⟨h.2.1, h.2.2.1⟩, h.2.2.2⟩
          · omega
      · rw [if_neg (by simpa using b)]
        congr 1
        rw [Bool.eq_iff_iff]
        simp only [beq_iff_eq, decide_eq_true_eq]
        unfold claimOK
        constructor
        · intro h; exact ⟨by omega, by omega, by omega, .inr ⟨by omega, h⟩⟩
        · rintro ⟨_, _, _, h | h⟩
          · exact absurd h.1 b
          · exact h.2
    · have hok : ¬ claimOK c := by rintro ⟨h1, h2, h3, h | h⟩ <;> omega
      rw [if_pos (by simp; omega), decide_eq_false hok]
  · have hr : r.2 = false := by simpa using hr
    rw [hr, Bool.and_false, if_pos (by simp)]
theorem Valid_agree (c : Claim) : ∃ v, decision_Valid c = some v ∧ pensionref26_Valid c = some v := by
  obtain ⟨r, h1, h2⟩ := Valid_dec c
  obtain ⟨r', h3, h4⟩ := Valid_ref c
  obtain ⟨q, h5, h6, _⟩ := Start_eq c
  rw [h5] at h1; rw [h6] at h3
  cases h1; cases h3
  exact ⟨_, h2, h4⟩
theorem awake26 : pensionlaw26_awake = some true := by kernel_rfl
end Go.PL
