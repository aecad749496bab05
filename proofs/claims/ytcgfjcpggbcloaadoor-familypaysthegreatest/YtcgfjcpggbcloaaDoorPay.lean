/- What the states pay. Plain Lean. -/
import Derived.Test.YtcgfjcpggbcloaaDoorOrder
import Derived.Test.YtcgfjcpggbcloaaDoorDiv
set_option linter.unusedSimpArgs false
set_option linter.unusedVariables false
namespace Go.PL
open Go

theorem divide_total (neg : Bool) {hi lo : Int} (den : Int) (h0 : 0 ≤ hi) (h1 : 0 ≤ lo) (h2 : lo < 18446744073709551616) : ∃ r, money_divide neg hi lo den ⟨1, 1⟩ = some r := by
  have j3 : ∀ x, ∃ r, money_divide_j3 ⟨1, 1⟩ x = some r := by
    intro x
    unfold money_divide_j3
    rw [quoI_of (by decide), quoI_of (by decide)]
    simp only [Option.bind_some, ite_or]
    split <;> exact ⟨_, rfl⟩
  have j : ∀ p x y, ∃ r, money_divide_j p ⟨1, 1⟩ x y = some r := by
    intro p x y
    unfold money_divide_j money_divide_j2
    simp only [show ((1 : Int) == 2) = false from rfl, show ((1 : Int) == 3) = false from rfl, show ((1 : Int) == 4) = false from rfl, Bool.false_eq_true, if_false]
    exact j3 _
  unfold money_divide
  have hu := u64_range (den * (u64 1))
  dsimp only
  generalize u64 (den * (u64 1)) = D at *
  by_cases h : D ≤ hi
  · rw [if_pos (by simpa using h)]; exact ⟨_, rfl⟩
  · rw [if_neg (by simpa using h)]
    obtain ⟨z, hz⟩ := Div64_total (d := hi) (i := lo) (p := D) h0 h1 h2 (by omega) (by omega)
    rw [hz, Option.bind_some]
    split
    · exact ⟨_, rfl⟩
    · split
      · split <;> exact j _ _ _
      · exact j _ _ _
theorem Convert_total (t : List Rate) (ht : ratesOK t) (m : Int) (x a b : Int) (hx : 1 ≤ x ∧ x ≤ 1000000000000) : ∃ r, money_Convert x a b m t ⟨1, 1⟩ = some r := by
  obtain ⟨c, hc, _⟩ := money_CheckRates_eq t
  obtain ⟨v, hv, _, _⟩ := Value_eq t a m (by have := ht.1; omega)
  obtain ⟨w, hw, _, _⟩ := Value_eq t b m (by have := ht.1; omega)
  have hr : money_ValidRounding ⟨1, 1⟩ = some true := rfl
  unfold money_Convert money_amount money_currency
  rw [hr, hc, hv, hw, size_eq3 (by omega) (by omega)]
  simp only [month_eq, Option.bind_some, ite_or]
  have hd : ∀ neg hi lo den, 0 ≤ hi → 0 ≤ lo → lo < 18446744073709551616 → ∃ r, Option.bind (money_divide neg hi lo den ⟨1, 1⟩) (fun z => some (z.1, z.2)) = some r := by
    intro neg hi lo den h0 h1 h2
    obtain ⟨r, hr⟩ := divide_total neg den h0 h1 h2
    exact ⟨_, by rw [hr, Option.bind_some]⟩
  split
  · exact ⟨_, rfl⟩
  · split
    · exact hd _ _ _ _ (by decide) (by omega) (by omega)
    · split
      · exact ⟨_, rfl⟩
      · rw [Mul64_eq (x := (x.natAbs : Int)) (by omega) (by omega) (u64_range _).1 (Int.lt_of_le_of_lt (u64_range _).2 (by decide)), Option.bind_some]
        refine hd _ _ _ _ (Int.ediv_nonneg (Int.mul_nonneg (by omega) (u64_range _).1) (by decide)) (Int.emod_nonneg _ (by decide)) (Int.emod_lt_of_pos _ (by decide))

/-- An amount in the currency of another right. -/
def cvt (t : List Rate) (m : Int) (q r : Right) : Int × Int := (money_Convert q.Amount q.Currency r.Currency m t ⟨1, 1⟩).getD (0, 1)
/-- The greatest amount that the rights named pay, in the currency of a right. -/
def mostOf (t : List Rate) (m : Int) (l : List Right) (r : Right) : Int → List Int → Int
  | acc, [] => acc
  | acc, k :: ks => mostOf t m l r (match getI l k with | some q => if (cvt t m q r).2 = 0 then max acc (cvt t m q r).1 else acc | none => acc) ks
def payOf (t : List Rate) (m : Int) (l : List Right) (pre : List Int) (r : Right) : FamilyPay := ⟨r.State, r.Currency, max 0 (i64 (r.Amount - mostOf t m l r 0 pre)), (pre.length : Int) == 0⟩
def paysOf (t : List Rate) (m : Int) (l : List Right) : List Int → List Int → List FamilyPay
  | _, [] => []
  | pre, y :: ys => (match getI l y with | some r => [payOf t m l pre r] | none => []) ++ paysOf t m l (pre ++ [y]) ys
theorem paysOf_append (t : List Rate) (m : Int) (l : List Right) : ∀ (a pre b : List Int), paysOf t m l pre (a ++ b) = paysOf t m l pre a ++ paysOf t m l (pre ++ a) b
  | [], pre, b => by simp [paysOf]
  | y :: ys, pre, b => by
    simp only [List.cons_append, paysOf, paysOf_append t m l ys (pre ++ [y]) b, List.append_assoc, List.nil_append]
theorem paysOf_length (t : List Rate) (m : Int) (l : List Right) : ∀ (a pre : List Int), (∀ y ∈ a, 0 ≤ y ∧ y < (l.length : Int)) → (paysOf t m l pre a).length = a.length
  | [], pre, _ => rfl
  | y :: ys, pre, h => by
    obtain ⟨r, hr, _⟩ := getI_of (h y (by simp)).1 (h y (by simp)).2
    simp only [paysOf, hr, List.length_append, List.length_cons, List.length_nil, paysOf_length t m l ys (pre ++ [y]) (fun z hz => h z (by simp [hz]))]
    omega
theorem mostOf_append (t : List Rate) (m : Int) (l : List Right) (r : Right) : ∀ (a b : List Int) (acc : Int), mostOf t m l r acc (a ++ b) = mostOf t m l r (mostOf t m l r acc a) b
  | [], b, acc => rfl
  | k :: ks, b, acc => by simp only [List.cons_append, mostOf]; exact mostOf_append t m l r ks b _
theorem Payments_ok (t : List Rate) (ht : ratesOK t) (home m : Int) (hm : 0 ≤ m ∧ m ≤ 2399) (l : List Right) (hl : rightsOK l) :
    ∃ o, family_Order l home t m = some (o, 0) ∧ o.Perm (upTo l.length) ∧ o.Pairwise (Le (cmpI t home m l)) ∧ family_Payments l home t m = some (paysOf t m l [] o, 0) := by
  obtain ⟨o, ho, hp, hs⟩ := Order_ok t ht home m hm l hl
  refine ⟨o, ho, hp, hs, ?_⟩
  have hin : ∀ y ∈ o, 0 ≤ y ∧ y < (l.length : Int) := fun y hy => upTo_mem.1 (hp.subset hy)
  have hol : o.length ≤ 6 := by rw [hp.length_eq, upTo_length]; exact hl.1
  unfold family_Payments
  rw [ho, Option.bind_some, if_neg (by simp)]
  obtain ⟨r, h1, h2⟩ := loopC_FU (f := family_Payments_l l t m (o, 0)) (fun s => ∃ A B, o = A ++ B ∧ s = (paysOf t m l [] A, (A.length : Int))) (fun s => o.length - s.2.toNat) (fun r => r = (paysOf t m l [] o, 0)) (s := ([], 0)) ⟨[], o, rfl, rfl⟩ (by show o.length - _ < _; omega) (by
    rintro s rec ⟨A, B, hAB, rfl⟩
    unfold family_Payments_l
    dsimp only
    have hlen : o.length = A.length + B.length := by rw [hAB]; simp
    cases B with
    | nil =>
      left
      rw [if_neg (by simp at hlen ⊢; omega)]
      exact ⟨_, rfl, by rw [hAB]; simp⟩
    | cons y B =>
      right
      rw [List.length_cons] at hlen
      have hyo : y ∈ o := by rw [hAB]; simp
      obtain ⟨q, hq, rq⟩ := hl.get (hin y hyo)
      have g1 : getI o (A.length : Int) = some y := by rw [hAB]; exact (by rw [getI_nat]; simp)
      have g2 : sliceI o 0 (A.length : Int) = some A := by
        rw [sliceI_of (by omega) (by omega) (by omega), hAB]; simp
      rw [if_pos (by simp; omega), g1, Option.bind_some, hq, Option.bind_some, g2, Option.bind_some]
      refine ⟨(paysOf t m l [] (A ++ [y]), ((A ++ [y]).length : Int)), ?_, ⟨A ++ [y], B, by rw [hAB]; simp, rfl⟩, by simp; omega⟩
      refine loopC_innerFU (fun s => ∃ C D, A = C ++ D ∧ s = (mostOf t m l q 0 C, (C.length : Int))) (fun s => A.length - s.2.toNat) (fun v => v = rec (paysOf t m l [] (A ++ [y]), ((A ++ [y]).length : Int))) ⟨[], A, rfl, rfl⟩ (by show A.length - _ < _; omega) ?_
      rintro s rec2 ⟨C, D, hCD, rfl⟩
      unfold family_Payments_l2 family_Payments_j
      dsimp only
      have hlen2 : A.length = C.length + D.length := by rw [hCD]; simp
      cases D with
      | nil =>
        left
        rw [if_neg (by simp at hlen2 ⊢; omega)]
        have hCA : C = A := by rw [hCD]; simp
        subst hCA
        have hpl : (paysOf t m l [] C).length = C.length := paysOf_length t m l C [] (fun z hz => hin z (by rw [hAB]; simp [hz]))
        rw [appI_of (by rw [hpl]; simp only [List.length_cons, List.length_nil]; omega), Option.bind_some, paysOf_append]
        simp only [paysOf, hq, List.nil_append, List.append_nil, payOf]
        rw [i64_id (n := (C.length : Int) + 1) (by omega) (by omega)]
        simp
      | cons k D =>
        right
        rw [List.length_cons] at hlen2
        have hko : k ∈ o := by rw [hAB, hCD]; simp
        obtain ⟨p, hp', rp⟩ := hl.get (hin k hko)
        have g3 : getI A (C.length : Int) = some k := by rw [hCD]; exact (by rw [getI_nat]; simp)
        obtain ⟨v, hv⟩ := Convert_total t ht m p.Amount p.Currency q.Currency ⟨rp.2.2.2.1, rp.2.2.2.2⟩
        have hcv : cvt t m p q = v := by unfold cvt; rw [hv]; rfl
        rw [if_pos (by simp; omega), g3, Option.bind_some, hp', Option.bind_some, Option.bind_some, hv]
        simp only [Option.bind_some]
        have em : mostOf t m l q 0 (C ++ [k]) = if v.2 = 0 then max (mostOf t m l q 0 C) v.1 else mostOf t m l q 0 C := by
          rw [mostOf_append]; simp only [mostOf, hp', hcv]
        rw [i64_id (n := (C.length : Int) + 1) (by omega) (by omega)]
        refine ⟨(mostOf t m l q 0 (C ++ [k]), ((C ++ [k]).length : Int)), ?_, ⟨C ++ [k], D, by rw [hCD]; simp, rfl⟩, by simp; omega⟩
        rw [em]
        by_cases hv0 : v.2 = 0 <;> simp [hv0])
  rw [h1, h2]
theorem Payments_bad (t : List Rate) (home m : Int) (l : List Right) (h : ¬ (rightsOK l ∧ (0 ≤ m ∧ m ≤ 2399) ∧ ratesOK t)) : family_Payments l home t m = some ([], 1) := by
  unfold family_Payments
  rw [Order_bad t home m l h]
  simp
theorem awake_eq : pensionlaw24_awake = some true := by kernel_rfl

/-- FamilyRejects is true. -/
theorem FamilyRejects_true (l : List Right) (home : Int) (t : List Rate) (m : Int) : pensionlaw24_FamilyRejects l home t m = some true := by
  obtain ⟨v, hv, hv2⟩ := ValidRights_eq l
  obtain ⟨c, hc, hc2⟩ := ref_CheckRates_eq t
  unfold pensionlaw24_FamilyRejects pensionref1_ValidMonth
  rw [hv, hc, awake_eq]
  simp only [Option.bind_some, ite_or]
  by_cases hok : rightsOK l ∧ (0 ≤ m ∧ m ≤ 2399) ∧ ratesOK t
  · obtain ⟨hl, hm, ht⟩ := hok
    obtain ⟨o, ho, _, _, hp⟩ := Payments_ok t ht home m hm l hl
    have e1 : v = true := by rcases hv2 with h | h; exact h.1; exact absurd hl h.2
    have e2 : c = 0 := by rcases hc2 with h | h; exact h.1; exact absurd ht h.2
    subst e1; subst e2
    rw [ho, hp]
    simp [hm.1, hm.2]
  · rw [Order_bad t home m l hok, Payments_bad t home m l hok]
    have e : ((!v || !(decide (0 ≤ m) && decide (m ≤ 2399))) || c != 0) = true := by
      cases hb : ((!v || !(decide (0 ≤ m) && decide (m ≤ 2399))) || c != 0) with
      | true => rfl
      | false =>
        exfalso; apply hok
        simp only [Bool.or_eq_false_iff, Bool.not_eq_false', Bool.and_eq_true, decide_eq_true_eq, bne_eq_false_iff_eq] at hb
        refine ⟨?_, hb.1.2, ?_⟩
        · rcases hv2 with h | h; exact h.2; rw [h.1] at hb; exact absurd hb.1.1 (by decide)
        · rcases hc2 with h | h; exact h.2; exact absurd hb.2 h.1
    rw [e]; rfl
end Go.PL
