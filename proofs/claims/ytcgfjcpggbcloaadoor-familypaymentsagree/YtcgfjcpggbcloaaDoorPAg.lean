/- FamilyPaymentsAgree is true. Plain Lean. -/
import Derived.Test.YtcgfjcpggbcloaaDoorAgree
import Derived.Test.YtcgfjcpggbcloaaDoorIgn
set_option linter.unusedSimpArgs false
set_option linter.unusedVariables false
namespace Go.PL
open Go

/-- What a division of words returns is a word. -/
theorem Div64_range {d i p : Int} {r : Int × Int} (h : bits_Div64 d i p = some r) : 0 ≤ r.1 ∧ r.1 ≤ 18446744073709551615 := by
  have j4 : ∀ (z q3 q4 q5 q6 x x2 : Int) (r : Int × Int), bits_Div64_j4 z q3 q4 q5 q6 x x2 = some r → 0 ≤ r.1 ∧ r.1 ≤ 18446744073709551615 := by
    intro z q3 q4 q5 q6 x x2 r h
    unfold bits_Div64_j4 at h
    obtain ⟨q, _, h⟩ := obind h
    cases h
    exact u64_range _
  have loop : ∀ {σ ρ : Type} (f : (σ → Option ρ) → σ → Option ρ) (Q : ρ → Prop) (_ : ∀ rec s r, (∀ s r, rec s = some r → Q r) → f rec s = some r → Q r) (k : Nat) (s : σ) (r : ρ), loopC k f s = some r → Q r := by
    intro σ ρ f Q hf k
    induction k with
    | zero => intro s r h; cases h
    | succ k ih => intro s r h; exact hf _ s r ih h
  have j3 : ∀ (z q3 q4 q5 q6 x : Int) (r : Int × Int), bits_Div64_j3 z q3 q4 q5 q6 x = some r → 0 ≤ r.1 ∧ r.1 ≤ 18446744073709551615 := by
    intro z q3 q4 q5 q6 x r h
    unfold bits_Div64_j3 at h
    obtain ⟨q8, _, h⟩ := obind h
    refine loop _ (fun r => 0 ≤ r.1 ∧ r.1 ≤ 18446744073709551615) (fun rec s r hrec h => ?_) _ _ _ h
    obtain ⟨x3, x4⟩ := s
    unfold bits_Div64_l at h
    dsimp only at h
    split at h
    · split at h
      · exact j4 _ _ _ _ _ _ _ _ h
      · exact hrec _ _ h
    · exact j4 _ _ _ _ _ _ _ _ h
  unfold bits_Div64 at h
  split at h
  · cases h
  · unfold bits_Div64_j at h
    split at h
    · cases h
    · unfold bits_Div64_j2 at h
      split at h
      · obtain ⟨q, hq, h⟩ := obind h
        obtain ⟨q2, _, h⟩ := obind h
        cases h
        have := (quoU_some hq).2
        rw [← this]
        exact u64_range _
      · obtain ⟨z, _, h⟩ := obind h
        obtain ⟨q3, _, h⟩ := obind h
        obtain ⟨q4, _, h⟩ := obind h
        obtain ⟨q5, _, h⟩ := obind h
        obtain ⟨q6, _, h⟩ := obind h
        obtain ⟨q7, _, h⟩ := obind h
        refine loop _ (fun r => 0 ≤ r.1 ∧ r.1 ≤ 18446744073709551615) (fun rec s r hrec h => ?_) _ _ _ h
        obtain ⟨x5, x6⟩ := s
        unfold bits_Div64_l2 at h
        dsimp only at h
        split at h
        · split at h
          · exact j3 _ _ _ _ _ _ _ h
          · exact hrec _ _ h
        · exact j3 _ _ _ _ _ _ _ h
/-- Rounding down a quotient: the program's and the reference's. -/
theorem divide_ref {hi lo den : Int} (h0 : 0 ≤ hi) (h1 : 0 ≤ lo) (h2 : lo < 18446744073709551616) (h3 : hi < 18446744073709551616) (hd : 0 < u64 den) : money_divide false hi lo den ⟨1, 1⟩ = pensionref1_rounded false ⟨hi, lo⟩ den ⟨1, 1⟩ := by
  have e0 : u64 1 = 1 := by decide
  have e1 : quoU 1000000000000 1 = some 1000000000000 := by rw [quoU_of (by decide)]; rfl
  have e2 : quoI 1000000000000 1 = some 1000000000000 := by rw [quoI_of (by decide)]; rfl
  have e3 : quoI (-1000000000000) 1 = some (-1000000000000) := by rw [quoI_of (by decide)]; rfl
  unfold money_divide pensionref1_rounded pensionref1_wide_over
  simp only [e0, Int.mul_one]
  have hu := u64_range den
  generalize u64 den = D at *
  rw [remI_of (by omega), quoU_of (by omega), tmod_nonneg h0, tdiv_nonneg h0]
  have hm : 0 ≤ hi % D ∧ hi % D < D := ⟨Int.emod_nonneg _ (by omega), Int.emod_lt_of_pos _ hd⟩
  obtain ⟨z, hz⟩ := Div64_total (d := hi % D) (i := lo) (p := D) hm.1 h1 h2 hm.2 (by omega)
  simp only [Option.bind_some, hz]
  by_cases h : D ≤ hi
  · have hq : 1 ≤ hi / D := by
      have := Int.ediv_le_ediv (c := D) hd h
      rwa [Int.ediv_self (by omega)] at this
    have hq2 : hi / D ≤ hi := Int.ediv_le_self _ h0
    rw [if_pos (by simpa using h), u64_id (n := hi / D) (by omega) (by omega), if_pos (by simp; omega)]
  · have hq : hi / D = 0 := Int.ediv_eq_zero_of_lt h0 (by omega)
    have hmm : hi % D = hi := Int.emod_eq_of_lt h0 (by omega)
    rw [hmm] at hz
    rw [if_neg (by simpa using h), hq, hz]
    have hr := Div64_range hz
    have eu0 : u64 0 = 0 := by decide
    simp only [Option.bind_some, eu0, bne_self_eq_false, Bool.false_or, beq_self_eq_true, if_true, Bool.false_and, Bool.false_eq_true, if_false]
    unfold money_divide_j money_divide_j2 money_divide_j3 pensionref1_rounded_j
    simp only [e0, e1, e2, e3, Option.bind_some, show ((1 : Int) == 2) = false from rfl, show ((1 : Int) == 3) = false from rfl, show ((1 : Int) == 4) = false from rfl, Bool.false_eq_true, if_false, Int.mul_one, ite_or]
    by_cases h4 : 1000000000000 < z.1
    · rw [if_pos (show decide (1000000000000 < z.1) = true by simpa using h4)]
      by_cases h5 : 2000000000000 < z.1
      · rw [if_pos (by simpa using h5)]
      · rw [if_neg (by simpa using h5), i64_id (n := z.1) (by omega) (by omega), if_pos (by simp; omega)]
    · rw [if_neg (show ¬ decide (2000000000000 < z.1) = true by simp; omega), if_neg (show ¬ decide (1000000000000 < z.1) = true by simpa using h4), i64_id (n := z.1) (by omega) (by omega), if_neg (by simp; omega), u64_id (n := z.1) (by omega) (by omega), i64_id (n := z.1) (by omega) (by omega), if_neg (by simpa using h4)]
theorem Convert_ref (t : List Rate) (ht : ratesOK t) (m : Int) (hm : 0 ≤ m ∧ m ≤ 2399) (x a b : Int) (hx : 1 ≤ x ∧ x ≤ 1000000000000) (ha : 1 ≤ a ∧ a ≤ 999) (hb : 1 ≤ b ∧ b ≤ 999) : pensionref1_Convert x a b m t ⟨1, 1⟩ = money_Convert x a b m t ⟨1, 1⟩ := by
  obtain ⟨c, hc, hc2⟩ := money_CheckRates_eq t
  obtain ⟨c', hc', hc2'⟩ := ref_CheckRates_eq t
  have hc0 : c = 0 := by rcases hc2 with h | h; exact h.1; exact absurd ht h.2
  have hc0' : c' = 0 := by rcases hc2' with h | h; exact h.1; exact absurd ht h.2
  subst hc0; subst hc0'
  obtain ⟨v, hv, hv2, hv3⟩ := Value_eq t a m (by have := ht.1; omega)
  obtain ⟨w, hw, hw2, hw3⟩ := Value_eq t b m (by have := ht.1; omega)
  have hr : money_ValidRounding ⟨1, 1⟩ = some true := rfl
  have hr2 : pensionref1_ValidRounding ⟨1, 1⟩ = some true := rfl
  unfold pensionref1_Convert money_Convert money_amount money_currency pensionref1_ValidAmount pensionref1_validCurrency pensionref1_ValidMonth
  rw [hr, hr2, hc, hc', hv, hw, hv2, hw2, size_eq3 (by omega) (by omega), size_eq2 (by omega) (by omega)]
  simp only [month_eq, Option.bind_some]
  have b1 : (decide (-1000000000000 ≤ x) && decide (x ≤ 1000000000000)) = true := by rw [Bool.and_eq_true]; exact ⟨decide_eq_true (by omega), decide_eq_true (by omega)⟩
  have b2 : (decide (1 ≤ a) && decide (a ≤ 999)) = true := by rw [Bool.and_eq_true]; exact ⟨decide_eq_true (by omega), decide_eq_true (by omega)⟩
  have b3 : (decide (1 ≤ b) && decide (b ≤ 999)) = true := by rw [Bool.and_eq_true]; exact ⟨decide_eq_true (by omega), decide_eq_true (by omega)⟩
  have b4 : (decide (0 ≤ m) && decide (m ≤ 2399)) = true := by rw [Bool.and_eq_true]; exact ⟨decide_eq_true (by omega), decide_eq_true (by omega)⟩
  have b5 : decide (x < 0) = false := by rw [decide_eq_false_iff_not]; omega
  simp only [b1, b2, b3, b4, b5, Bool.not_true, Bool.false_eq_true, if_false, Option.bind_some, bne_self_eq_false]
  by_cases hab : a = b
  · simp only [show (a == b) = true by simpa using hab, if_true]
    rw [divide_ref (by decide) (by omega) (by omega) (by decide) (by decide)]
  · simp only [show (a == b) = false by simpa using hab, Bool.false_eq_true, if_false]
    rcases hv3 with hv3 | ⟨y, hy, hv3, _⟩
    · subst hv3; simp
    · rcases hw3 with hw3 | ⟨z, hz, hw3, _⟩
      · subst hw3; simp
      · subst hv3; subst hw3
        simp only [Bool.not_true, Bool.or_self, Bool.false_eq_true, if_false]
        obtain ⟨_, _, _, ⟨y1, y2⟩, y3, y4⟩ := ht.mem hy
        obtain ⟨_, _, _, ⟨z1, z2⟩, z3, z4⟩ := ht.mem hz
        have hD : 0 < u64 (u64 (u64 y.Value.Den * u64 z.Value.Num)) := by
          have h1 : 1 ≤ y.Value.Den * z.Value.Num := Int.mul_pos (by omega) (by omega)
          have h2 : y.Value.Den * z.Value.Num ≤ 1000000 * 1000000 := Int.mul_le_mul y4 z2 (by omega) (by decide)
          rw [u64_id (n := y.Value.Den) (by omega) (by omega), u64_id (n := z.Value.Num) (by omega) (by omega), u64_id (n := y.Value.Den * z.Value.Num) (by omega) (by omega), u64_id (by omega) (by omega)]
          omega
        unfold pensionref1_times
        have hu := u64_range (u64 y.Value.Num * u64 z.Value.Den)
        generalize u64 (u64 y.Value.Num * u64 z.Value.Den) = N at *
        rw [Mul64_eq (x := (x.natAbs : Int)) (by omega) (by omega) hu.1 (by omega)]
        simp only [Option.bind_some]
        have hp : 0 ≤ (x.natAbs : Int) * N := Int.mul_nonneg (by omega) hu.1
        have hp2 : (x.natAbs : Int) * N ≤ 1000000000000 * 18446744073709551615 := Int.mul_le_mul (by omega) hu.2 hu.1 (by decide)
        rw [divide_ref (by omega) (by omega) (by omega) (by omega) hD]
theorem RefPayments_ok (t : List Rate) (ht : ratesOK t) (home m : Int) (hm : 0 ≤ m ∧ m ≤ 2399) (l : List Right) (hl : rightsOK l) (o : List Int) (hp : o.Perm (upTo l.length)) (hs : o.Pairwise (Le (cmpI t home m l))) :
    pensionref21_Payments l home t m = some (paysOf t m l [] o, 0) := by
  have ho := RefOrder_ok t ht home m hm l hl o hp hs
  have hin : ∀ y ∈ o, 0 ≤ y ∧ y < (l.length : Int) := fun y hy => upTo_mem.1 (hp.subset hy)
  have hol : o.length ≤ 6 := by rw [hp.length_eq, upTo_length]; exact hl.1
  unfold pensionref21_Payments
  rw [ho, Option.bind_some, if_neg (by simp)]
  obtain ⟨r, h1, h2⟩ := loopC_FU (f := pensionref21_Payments_l l t m (o, 0)) (fun s => ∃ A B, o = A ++ B ∧ s = (paysOf t m l [] A, (A.length : Int))) (fun s => o.length - s.2.toNat) (fun r => r = (paysOf t m l [] o, 0)) (s := ([], 0)) ⟨[], o, rfl, rfl⟩ (by show o.length - _ < _; omega) (by
    rintro s rec ⟨A, B, hAB, rfl⟩
    unfold pensionref21_Payments_l
    dsimp only
    have hlen : o.length = A.length + B.length := by rw [hAB]; simp
    cases B with
    | nil =>
      left
      rw [if_neg (by simp at hlen ⊢; omega)]
      exact ⟨_, rfl, by rw [hAB]; simp⟩
    | cons y B =>
      right
      rw [List.length_cons] at hlen
      have hyo : y ∈ o := by rw [hAB]; simp
      obtain ⟨q, hq, rq⟩ := hl.get (hin y hyo)
      have g1 : getI o (A.length : Int) = some y := by rw [hAB]; exact (by rw [getI_nat]; simp)
      rw [if_pos (by simp; omega), g1, Option.bind_some, hq, Option.bind_some]
      refine ⟨(paysOf t m l [] (A ++ [y]), ((A ++ [y]).length : Int)), ?_, ⟨A ++ [y], B, by rw [hAB]; simp, rfl⟩, by simp; omega⟩
      refine loopC_innerFU (fun s => ∃ C D, A = C ++ D ∧ s = (mostOf t m l q 0 C, (C.length : Int))) (fun s => A.length - s.2.toNat) (fun v => v = rec (paysOf t m l [] (A ++ [y]), ((A ++ [y]).length : Int))) ⟨[], A, rfl, rfl⟩ (by show A.length - _ < _; omega) ?_
      rintro s rec2 ⟨C, D, hCD, rfl⟩
      unfold pensionref21_Payments_l2 pensionref21_Payments_j pensionref21_down
      dsimp only
      have hlen2 : A.length = C.length + D.length := by rw [hCD]; simp
      cases D with
      | nil =>
        left
        rw [if_neg (by simp at hlen2 ⊢; omega)]
        have hCA : C = A := by rw [hCD]; simp
        subst hCA
        have hpl : (paysOf t m l [] C).length = C.length := paysOf_length t m l C [] (fun z hz => hin z (by rw [hAB]; simp [hz]))
        rw [appI_of (by rw [hpl]; simp only [List.length_cons, List.length_nil]; omega), Option.bind_some, paysOf_append]
        simp only [paysOf, hq, List.nil_append, List.append_nil, payOf]
        rw [i64_id (n := (C.length : Int) + 1) (by omega) (by omega), Int.max_comm]
        simp
      | cons k D =>
        right
        rw [List.length_cons] at hlen2
        have hko : k ∈ o := by rw [hAB, hCD]; simp
        obtain ⟨p, hp', rp⟩ := hl.get (hin k hko)
        have g3 : getI o (C.length : Int) = some k := by rw [hAB, hCD]; exact (by rw [getI_nat]; simp)
        obtain ⟨v, hv⟩ := Convert_total t ht m p.Amount p.Currency q.Currency ⟨rp.2.2.2.1, rp.2.2.2.2⟩
        have hcv : cvt t m p q = v := by unfold cvt; rw [hv]; rfl
        rw [if_pos (by simp; omega)]
        simp only [g3, Option.bind_some, hp', Convert_ref t ht m hm p.Amount p.Currency q.Currency rp.2.2.2 rp.2.2.1 rq.2.2.1, hv]
        have em : mostOf t m l q 0 (C ++ [k]) = if v.2 = 0 then max (mostOf t m l q 0 C) v.1 else mostOf t m l q 0 C := by
          rw [mostOf_append]; simp only [mostOf, hp', hcv]
        rw [i64_id (n := (C.length : Int) + 1) (by omega) (by omega)]
        refine ⟨(mostOf t m l q 0 (C ++ [k]), ((C ++ [k]).length : Int)), ?_, ⟨C ++ [k], D, by rw [hCD]; simp, rfl⟩, by simp; omega⟩
        rw [em]
        by_cases hv0 : v.2 = 0 <;> simp [hv0])
  rw [h1, h2]
theorem FamilyPaymentsAgree_true (d : List pensionlaw24_Raw) (hd : d.length ≤ 9223372036854775807) (i : Int) (p : List Int) (hp : p.length ≤ 9223372036854775807) (p2 : Int) : pensionlaw24_FamilyPaymentsAgree d i p p2 = some true := by
  obtain ⟨l, hl, hok⟩ := List_ok d hd
  obtain ⟨t, ht, htok⟩ := Rates_ok p hp
  have hm : 0 ≤ p2 % 2400 ∧ p2 % 2400 ≤ 2399 := by omega
  unfold pensionlaw24_FamilyPaymentsAgree
  rw [hl, Option.bind_some, ht, Option.bind_some, mod_month, Option.bind_some, mod_home, Option.bind_some]
  obtain ⟨o, ho, hpo, hs, hpay⟩ := Payments_ok t htok (i64 (i % 8 - 1)) (p2 % 2400) hm l hok.ok
  rw [hpay, RefPayments_ok t htok _ _ hm l hok.ok o hpo hs, awake_eq]
  have hpl := paysOf_length t (p2 % 2400) l o [] (fun y hy => upTo_mem.1 (hpo.subset hy))
  have hol : o.length ≤ 6 := by rw [hpo.length_eq, upTo_length]; exact hok.ok.1
  simp [Same_refl _ (show (paysOf t (p2 % 2400) l [] o).length ≤ 1000 by omega)]
end Go.PL
