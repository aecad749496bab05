/- Valid facts: fact.Valid and pensionref12.Valid answer alike. No program in sight. -/
import Derived.Test.YtndkbfbjjnhgoaaGreatDoorLp
set_option linter.unusedVariables false
namespace Go.PL
open Go

/-- Which letters a kind uses: both tables say the same. -/
def UsesOK (k : Int) : Prop := ∃ (s : ByteArray) (bS bT bH bC bA bR : Bool), fact_Uses k = some s ∧ pensionref12_Uses k = some s ∧ (s.toList == str1.toList) = false ∧
  (containsF s str10 = some bS ∧ pensionref12_uses k 83 = some bS) ∧ (containsF s str11 = some bT ∧ pensionref12_uses k 84 = some bT) ∧ (containsF s str12 = some bH ∧ pensionref12_uses k 72 = some bH) ∧
  (containsF s str13 = some bC ∧ pensionref12_uses k 67 = some bC) ∧ (containsF s str14 = some bA ∧ pensionref12_uses k 65 = some bA) ∧ (containsF s str15 = some bR ∧ pensionref12_uses k 82 = some bR)
theorem uses_1 : UsesOK 1 := ⟨str2, true, true, true, true, true, false, by kernel_rfl, by kernel_rfl, by kernel_rfl, ⟨by kernel_rfl, by kernel_rfl⟩, ⟨by kernel_rfl, by kernel_rfl⟩, ⟨by kernel_rfl, by kernel_rfl⟩, ⟨by kernel_rfl, by kernel_rfl⟩, ⟨by kernel_rfl, by kernel_rfl⟩, ⟨by kernel_rfl, by kernel_rfl⟩⟩
theorem uses_2 : UsesOK 2 := ⟨str3, true, false, true, true, true, false, by kernel_rfl, by kernel_rfl, by kernel_rfl, ⟨by kernel_rfl, by kernel_rfl⟩, ⟨by kernel_rfl, by kernel_rfl⟩, ⟨by kernel_rfl, by kernel_rfl⟩, ⟨by kernel_rfl, by kernel_rfl⟩, ⟨by kernel_rfl, by kernel_rfl⟩, ⟨by kernel_rfl, by kernel_rfl⟩⟩
theorem uses_3 : UsesOK 3 := ⟨str3, true, false, true, true, true, false, by kernel_rfl, by kernel_rfl, by kernel_rfl, ⟨by kernel_rfl, by kernel_rfl⟩, ⟨by kernel_rfl, by kernel_rfl⟩, ⟨by kernel_rfl, by kernel_rfl⟩, ⟨by kernel_rfl, by kernel_rfl⟩, ⟨by kernel_rfl, by kernel_rfl⟩, ⟨by kernel_rfl, by kernel_rfl⟩⟩
theorem uses_4 : UsesOK 4 := ⟨str4, true, true, false, false, false, false, by kernel_rfl, by kernel_rfl, by kernel_rfl, ⟨by kernel_rfl, by kernel_rfl⟩, ⟨by kernel_rfl, by kernel_rfl⟩, ⟨by kernel_rfl, by kernel_rfl⟩, ⟨by kernel_rfl, by kernel_rfl⟩, ⟨by kernel_rfl, by kernel_rfl⟩, ⟨by kernel_rfl, by kernel_rfl⟩⟩
theorem uses_5 : UsesOK 5 := ⟨str5, true, false, false, false, false, false, by kernel_rfl, by kernel_rfl, by kernel_rfl, ⟨by kernel_rfl, by kernel_rfl⟩, ⟨by kernel_rfl, by kernel_rfl⟩, ⟨by kernel_rfl, by kernel_rfl⟩, ⟨by kernel_rfl, by kernel_rfl⟩, ⟨by kernel_rfl, by kernel_rfl⟩, ⟨by kernel_rfl, by kernel_rfl⟩⟩
theorem uses_6 : UsesOK 6 := ⟨str6, true, false, false, true, true, false, by kernel_rfl, by kernel_rfl, by kernel_rfl, ⟨by kernel_rfl, by kernel_rfl⟩, ⟨by kernel_rfl, by kernel_rfl⟩, ⟨by kernel_rfl, by kernel_rfl⟩, ⟨by kernel_rfl, by kernel_rfl⟩, ⟨by kernel_rfl, by kernel_rfl⟩, ⟨by kernel_rfl, by kernel_rfl⟩⟩
theorem uses_7 : UsesOK 7 := ⟨str5, true, false, false, false, false, false, by kernel_rfl, by kernel_rfl, by kernel_rfl, ⟨by kernel_rfl, by kernel_rfl⟩, ⟨by kernel_rfl, by kernel_rfl⟩, ⟨by kernel_rfl, by kernel_rfl⟩, ⟨by kernel_rfl, by kernel_rfl⟩, ⟨by kernel_rfl, by kernel_rfl⟩, ⟨by kernel_rfl, by kernel_rfl⟩⟩
theorem uses_8 : UsesOK 8 := ⟨str5, true, false, false, false, false, false, by kernel_rfl, by kernel_rfl, by kernel_rfl, ⟨by kernel_rfl, by kernel_rfl⟩, ⟨by kernel_rfl, by kernel_rfl⟩, ⟨by kernel_rfl, by kernel_rfl⟩, ⟨by kernel_rfl, by kernel_rfl⟩, ⟨by kernel_rfl, by kernel_rfl⟩, ⟨by kernel_rfl, by kernel_rfl⟩⟩
theorem uses_9 : UsesOK 9 := ⟨str5, true, false, false, false, false, false, by kernel_rfl, by kernel_rfl, by kernel_rfl, ⟨by kernel_rfl, by kernel_rfl⟩, ⟨by kernel_rfl, by kernel_rfl⟩, ⟨by kernel_rfl, by kernel_rfl⟩, ⟨by kernel_rfl, by kernel_rfl⟩, ⟨by kernel_rfl, by kernel_rfl⟩, ⟨by kernel_rfl, by kernel_rfl⟩⟩
theorem uses_10 : UsesOK 10 := ⟨str7, true, false, false, false, false, true, by kernel_rfl, by kernel_rfl, by kernel_rfl, ⟨by kernel_rfl, by kernel_rfl⟩, ⟨by kernel_rfl, by kernel_rfl⟩, ⟨by kernel_rfl, by kernel_rfl⟩, ⟨by kernel_rfl, by kernel_rfl⟩, ⟨by kernel_rfl, by kernel_rfl⟩, ⟨by kernel_rfl, by kernel_rfl⟩⟩
theorem uses_11 : UsesOK 11 := ⟨str8, false, false, false, false, false, false, by kernel_rfl, by kernel_rfl, by kernel_rfl, ⟨by kernel_rfl, by kernel_rfl⟩, ⟨by kernel_rfl, by kernel_rfl⟩, ⟨by kernel_rfl, by kernel_rfl⟩, ⟨by kernel_rfl, by kernel_rfl⟩, ⟨by kernel_rfl, by kernel_rfl⟩, ⟨by kernel_rfl, by kernel_rfl⟩⟩
theorem uses_12 : UsesOK 12 := ⟨str8, false, false, false, false, false, false, by kernel_rfl, by kernel_rfl, by kernel_rfl, ⟨by kernel_rfl, by kernel_rfl⟩, ⟨by kernel_rfl, by kernel_rfl⟩, ⟨by kernel_rfl, by kernel_rfl⟩, ⟨by kernel_rfl, by kernel_rfl⟩, ⟨by kernel_rfl, by kernel_rfl⟩, ⟨by kernel_rfl, by kernel_rfl⟩⟩
theorem uses_13 : UsesOK 13 := ⟨str8, false, false, false, false, false, false, by kernel_rfl, by kernel_rfl, by kernel_rfl, ⟨by kernel_rfl, by kernel_rfl⟩, ⟨by kernel_rfl, by kernel_rfl⟩, ⟨by kernel_rfl, by kernel_rfl⟩, ⟨by kernel_rfl, by kernel_rfl⟩, ⟨by kernel_rfl, by kernel_rfl⟩, ⟨by kernel_rfl, by kernel_rfl⟩⟩
theorem uses_14 : UsesOK 14 := ⟨str9, false, false, false, false, false, true, by kernel_rfl, by kernel_rfl, by kernel_rfl, ⟨by kernel_rfl, by kernel_rfl⟩, ⟨by kernel_rfl, by kernel_rfl⟩, ⟨by kernel_rfl, by kernel_rfl⟩, ⟨by kernel_rfl, by kernel_rfl⟩, ⟨by kernel_rfl, by kernel_rfl⟩, ⟨by kernel_rfl, by kernel_rfl⟩⟩
theorem uses_in {k : Int} (h0 : 1 ≤ k) (h1 : k ≤ 14) : UsesOK k := by
  have : k = 1 ∨ k = 2 ∨ k = 3 ∨ k = 4 ∨ k = 5 ∨ k = 6 ∨ k = 7 ∨ k = 8 ∨ k = 9 ∨ k = 10 ∨ k = 11 ∨ k = 12 ∨ k = 13 ∨ k = 14 := by omega
  rcases this with rfl | rfl | rfl | rfl | rfl | rfl | rfl | rfl | rfl | rfl | rfl | rfl | rfl | rfl
  all_goals first | exact uses_1 | exact uses_2 | exact uses_3 | exact uses_4 | exact uses_5 | exact uses_6 | exact uses_7 | exact uses_8 | exact uses_9 | exact uses_10 | exact uses_11 | exact uses_12 | exact uses_13 | exact uses_14
theorem uses_out {k : Int} (h : k < 1 ∨ 15 ≤ k) : fact_Uses k = some str1 ∧ pensionref12_Uses k = some str1 := by
  have e : ∀ j : Int, 1 ≤ j → j ≤ 14 → (k == j) = false := by intro j _ _; simp; omega
  constructor
  · unfold fact_Uses fact_Uses_j fact_Uses_j2 fact_Uses_j3
    simp [e 1, e 2, e 3, e 4, e 5, e 6, e 7, e 8, e 9, e 10, e 11, e 12, e 13, e 14]
  · unfold pensionref12_Uses
    rw [if_pos (by simp; omega)]

theorem field_agree {k : Int} {s c : ByteArray} {n x lo hi : Int} {b : Bool} (h : containsF s c = some b ∧ pensionref12_uses k n = some b) :
    (Option.bind (fact_Valid_1 c s) fun z => fact_field z x lo hi) = some (if b = true then decide (lo ≤ x) && decide (x ≤ hi) else x == 0) ∧
    pensionref12_field k n x lo hi = some (if b = true then decide (lo ≤ x) && decide (x ≤ hi) else x == 0) := by
  obtain ⟨h1, h2⟩ := h
  constructor
  · unfold fact_Valid_1 strings_Contains fact_field fact_within
    rw [h1]
    cases b <;> simp
  · unfold pensionref12_field
    rw [h2]
    cases b <;> simp
theorem bind_assoc3 {α β γ : Type} (a : Option α) (f : α → Option β) (g : β → Option γ) : (Option.bind a fun x => Option.bind (f x) g) = Option.bind (Option.bind a f) g := by cases a <;> rfl
set_option maxHeartbeats 4000000 in
theorem valid_agree (d : api_Fact) : ∃ b, fact_Valid d = some b ∧ pensionref12_Valid d = some b ∧ (b = true → 0 ≤ d.Span.From ∧ d.Span.From < d.Span.To ∧ d.Span.To ≤ 73049) := by
  by_cases hk : 1 ≤ d.Kind ∧ d.Kind ≤ 14
  · obtain ⟨s, bS, bT, bH, bC, bA, bR, h1, h2, h3, hS, hT, hH, hC, hA, hR⟩ := uses_in hk.1 hk.2
    obtain ⟨fS, rS⟩ := field_agree (x := d.State) (lo := 0) (hi := 5) hS
    obtain ⟨fT, rT⟩ := field_agree (x := d.Seat) (lo := 0) (hi := 5) hT
    obtain ⟨fH, rH⟩ := field_agree (x := d.Share) (lo := 1) (hi := 100) hH
    obtain ⟨fC, rC⟩ := field_agree (x := d.Currency) (lo := 1) (hi := 999) hC
    obtain ⟨fA, rA⟩ := field_agree (x := d.Amount) (lo := 0) (hi := 1000000000) hA
    obtain ⟨fR, rR⟩ := field_agree (x := d.Ref) (lo := 1) (hi := 99) hR
    generalize (if bS = true then decide (0 ≤ d.State) && decide (d.State ≤ 5) else d.State == 0) = vS at fS rS
    generalize (if bT = true then decide (0 ≤ d.Seat) && decide (d.Seat ≤ 5) else d.Seat == 0) = vT at fT rT
    generalize (if bH = true then decide (1 ≤ d.Share) && decide (d.Share ≤ 100) else d.Share == 0) = vH at fH rH
    generalize (if bC = true then decide (1 ≤ d.Currency) && decide (d.Currency ≤ 999) else d.Currency == 0) = vC at fC rC
    generalize (if bA = true then decide (0 ≤ d.Amount) && decide (d.Amount ≤ 1000000000) else d.Amount == 0) = vA at fA rA
    generalize (if bR = true then decide (1 ≤ d.Ref) && decide (d.Ref ≤ 99) else d.Ref == 0) = vR at fR rR
    unfold fact_Valid pensionref12_Valid fact_Valid_j fact_Valid_j2
    dsimp only
    simp only [bind_assoc3, fS, fT, fH, fC, fA, fR, rS, rT, rH, rC, rA, rR, h1, h2, Option.bind_some, h3, Bool.false_eq_true, if_false]
    unfold fact_within fact_validSpan
    simp only [Option.bind_some, ite_or, ite_and]
    by_cases hI : (((((((decide (d.Issuer < 0) || decide (6 ≤ d.Issuer)) || decide (d.Number < 1)) || decide (999 < d.Number)) || decide (d.Version < 1)) || decide (99 < d.Version)) || decide (d.Person < 1)) || decide (99 < d.Person)) = true
    · refine ⟨false, ?_, ?_, by simp⟩
      · rw [if_pos]
        simp at hI ⊢; omega
      · rw [if_pos]
        simp only [hI]; rfl
    · rw [Bool.not_eq_true] at hI
      simp only [hI, Bool.false_or, Bool.false_eq_true, if_false]
      rw [if_neg (by simp at hI ⊢; omega)]
      by_cases hP : 0 ≤ d.Span.From ∧ d.Span.From < d.Span.To ∧ d.Span.To ≤ 73049
      · have hp1 : ((decide (0 ≤ d.Span.From) && decide (d.Span.From < d.Span.To)) && decide (d.Span.To ≤ 73049)) = true := by simp; omega
        have hp2 : ((decide (d.Span.From < 0) || decide (d.Span.To ≤ d.Span.From)) || decide (73049 < d.Span.To)) = false := by simp; omega
        have e1 : i64 (d.Span.From + 1) = d.Span.From + 1 := i64_id (by omega) (by omega)
        have e2 : i64 (d.Span.To - d.Span.From) = d.Span.To - d.Span.From := i64_id (by omega) (by omega)
        have e3 : (d.Span.To == d.Span.From + 1) = !(d.Span.To - d.Span.From != 1) := by
          rw [Bool.eq_iff_iff]; simp; omega
        simp only [hp1, hp2, e1, e2, e3, Bool.not_true, Bool.or_false, Bool.false_eq_true, if_false]
        refine ⟨!(((((d.Kind == 11) || (d.Kind == 12)) && (d.Span.To - d.Span.From != 1)) || ((d.Kind == 4) && (d.Seat == d.State))) || (((d.Kind == 10) || (d.Kind == 14)) && (d.Ref == d.Person))) && (((((vS && vT) && vH) && vC) && vA) && vR), ?_, ?_, fun _ => hP⟩
        · have hkk : d.Kind = 4 ∨ d.Kind = 11 ∨ d.Kind = 12 ∨ d.Kind = 10 ∨ d.Kind = 14 ∨ ((d.Kind == 4) = false ∧ (d.Kind == 11) = false ∧ (d.Kind == 12) = false ∧ (d.Kind == 10) = false ∧ (d.Kind == 14) = false) := by simp; omega
          rcases hkk with h | h | h | h | h | ⟨g1, g2, g3, g4, g5⟩
          · simp only [h]; cases vS <;> cases vT <;> cases vH <;> cases vC <;> cases vA <;> cases vR <;> simp
            show (!(d.State == d.Seat)) = (!(d.Seat == d.State))
            rw [BEq.comm]
          · simp only [h]; cases vS <;> cases vT <;> cases vH <;> cases vC <;> cases vA <;> cases vR <;> simp
          · simp only [h]; cases vS <;> cases vT <;> cases vH <;> cases vC <;> cases vA <;> cases vR <;> simp
          · simp only [h]; cases vS <;> cases vT <;> cases vH <;> cases vC <;> cases vA <;> cases vR <;> simp
            rfl
          · simp only [h]; cases vS <;> cases vT <;> cases vH <;> cases vC <;> cases vA <;> cases vR <;> simp
            rfl
          · simp only [g1, g2, g3, g4, g5]; cases vS <;> cases vT <;> cases vH <;> cases vC <;> cases vA <;> cases vR <;> simp
        · generalize (((((d.Kind == 11) || (d.Kind == 12)) && (d.Span.To - d.Span.From != 1)) || ((d.Kind == 4) && (d.Seat == d.State))) || (((d.Kind == 10) || (d.Kind == 14)) && (d.Ref == d.Person))) = sp
          cases sp <;> cases vS <;> cases vT <;> cases vH <;> cases vC <;> cases vA <;> cases vR <;> simp
      · have hp1 : ((decide (0 ≤ d.Span.From) && decide (d.Span.From < d.Span.To)) && decide (d.Span.To ≤ 73049)) = false := by simp; omega
        have hp2 : ((decide (d.Span.From < 0) || decide (d.Span.To ≤ d.Span.From)) || decide (73049 < d.Span.To)) = true := by simp; omega
        refine ⟨false, ?_, ?_, by simp⟩
        · rw [if_pos]; simp only [hp1, Bool.not_false, Bool.or_true]
        · rw [if_pos hp2]; simp
  · obtain ⟨h1, h2⟩ := uses_out (k := d.Kind) (by omega)
    refine ⟨false, ?_, ?_, by simp⟩
    · unfold fact_Valid
      simp [h1]
    · unfold pensionref12_Valid
      simp [h2]
end Go.PL
