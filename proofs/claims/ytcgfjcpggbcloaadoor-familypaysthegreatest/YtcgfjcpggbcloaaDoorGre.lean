/- FamilyPaysTheGreatest is true. Plain Lean. -/
import Derived.Test.YtcgfjcpggbcloaaDoorSeq
import Derived.Test.YtcgfjcpggbcloaaDoorPri
set_option linter.unusedSimpArgs false
set_option linter.unusedVariables false
namespace Go.PL
open Go

/-- In one currency an amount is worth itself. -/
theorem divide_one {x : Int} (h0 : 0 ≤ x) (h1 : x ≤ 1000000000000) : money_divide false 0 x 1 ⟨1, 1⟩ = some (x, 0) := by
  have e0 : u64 1 = 1 := by decide
  have e2 : quoI 1000000000000 1 = some 1000000000000 := by rw [quoI_of (by decide)]; rfl
  have e3 : quoI (-1000000000000) 1 = some (-1000000000000) := by rw [quoI_of (by decide)]; rfl
  have hD : bits_Div64 0 x 1 = some (x, 0) := by
    unfold bits_Div64 bits_Div64_j bits_Div64_j2
    rw [if_neg (by decide), if_neg (by decide), if_pos (by decide), quoU_of (by decide), remI_of (by decide), Int.tdiv_one, Int.tmod_one]
    simp only [Option.bind_some]
    rw [u64_id (by omega) (by omega)]
  unfold money_divide
  simp only [e0, Int.mul_one]
  rw [if_neg (by decide), hD]
  simp only [Option.bind_some, Bool.false_eq_true, if_false]
  rw [if_neg (by simp; omega)]
  unfold money_divide_j money_divide_j2 money_divide_j3
  simp only [e0, e2, e3, Option.bind_some, show ((1 : Int) == 2) = false from rfl, show ((1 : Int) == 3) = false from rfl, show ((1 : Int) == 4) = false from rfl, Bool.false_eq_true, if_false, Int.mul_one, ite_or]
  rw [i64_id (n := x) (by omega) (by omega), if_neg (by simp; omega), i64_id (n := x) (by omega) (by omega)]
theorem cvt_one {m : Int} (hm : 0 ≤ m ∧ m ≤ 2399) {q r : Right} (hq : rightOK q) (hr : rightOK r) (hc : q.Currency = r.Currency) : cvt [] m q r = (q.Amount, 0) := by
  have : money_Convert q.Amount q.Currency r.Currency m [] ⟨1, 1⟩ = some (q.Amount, 0) := by
    obtain ⟨_, _, q3, q4⟩ := hq
    obtain ⟨_, _, r3, r4⟩ := hr
    have hcr : money_CheckRates [] = some 0 := by
      obtain ⟨c, hc, hc2⟩ := money_CheckRates_eq []
      have : c = 0 := by
        rcases hc2 with h | h
        · exact h.1
        · exact absurd ⟨by simp, fun x h => absurd h (Nat.not_lt_zero _)⟩ h.2
      rw [hc, this]
    have hvr : money_ValidRounding ⟨1, 1⟩ = some true := rfl
    unfold money_Convert money_amount money_currency
    rw [hcr, hvr, size_eq3 (by omega) (by omega)]
    have b1 : (decide (-1000000000000 ≤ q.Amount) && decide (q.Amount ≤ 1000000000000)) = true := by rw [Bool.and_eq_true]; exact ⟨decide_eq_true (by omega), decide_eq_true (by omega)⟩
    have b2 : (decide (1 ≤ q.Currency) && decide (q.Currency ≤ 999)) = true := by rw [Bool.and_eq_true]; exact ⟨decide_eq_true (by omega), decide_eq_true (by omega)⟩
    have b3 : (decide (1 ≤ r.Currency) && decide (r.Currency ≤ 999)) = true := by rw [Bool.and_eq_true]; exact ⟨decide_eq_true (by omega), decide_eq_true (by omega)⟩
    have b4 : (decide (0 ≤ m) && decide (m ≤ 2399)) = true := by rw [Bool.and_eq_true]; exact ⟨decide_eq_true (by omega), decide_eq_true (by omega)⟩
    have b5 : decide (q.Amount < 0) = false := by rw [decide_eq_false_iff_not]; omega
    have b6 : (q.Currency == r.Currency) = true := by simpa using hc
    simp only [month_eq, b1, b2, b3, b4, b5, b6, Bool.not_true, Bool.false_eq_true, if_false, if_true, Option.bind_some, bne_self_eq_false]
    have e : (q.Amount.natAbs : Int) = q.Amount := by omega
    rw [e, divide_one (by omega) (by omega)]
    rfl
  unfold cvt; rw [this]; rfl
/-- The greatest of the amounts. -/
def great : Int → List Right → Int
  | acc, [] => acc
  | acc, q :: qs => great (max acc q.Amount) qs
theorem great_append : ∀ (a b : List Right) (acc : Int), great acc (a ++ b) = great (great acc a) b
  | [], _, _ => rfl
  | q :: qs, b, acc => by simp only [List.cons_append, great]; exact great_append qs b _
theorem great_max : ∀ (l : List Right) (a b : Int), great (max a b) l = max a (great b l)
  | [], _, _ => rfl
  | q :: qs, a, b => by
    simp only [great]
    rw [show max (max a b) q.Amount = max a (max b q.Amount) by omega, great_max qs]
theorem great_perm {l l2 : List Right} (h : l.Perm l2) : ∀ acc, great acc l = great acc l2 := by
  induction h with
  | nil => intro _; rfl
  | cons x _ ih => intro acc; simp only [great]; exact ih _
  | swap x y l => intro acc; simp only [great]; rw [show max (max acc y.Amount) x.Amount = max (max acc x.Amount) y.Amount by omega]
  | trans _ _ h1 h2 => intro acc; rw [h1, h2]
theorem great_bound : ∀ (l : List Right) (acc : Int), (∀ y ∈ l, rightOK y) → 0 ≤ acc ∧ acc ≤ 1000000000000 → acc ≤ great acc l ∧ great acc l ≤ 1000000000000
  | [], acc, _, h => ⟨Int.le_refl _, h.2⟩
  | q :: qs, acc, hl, h => by
    have hq := (hl q (by simp)).2.2.2
    simp only [great]
    have := great_bound qs (max acc q.Amount) (fun y hy => hl y (by simp [hy])) (by omega)
    omega
theorem mostR_one {m : Int} (hm : 0 ≤ m ∧ m ≤ 2399) (r : Right) (hr : rightOK r) : ∀ (qs : List Right) (acc : Int), (∀ q ∈ qs, rightOK q ∧ q.Currency = r.Currency) → mostR [] m r acc qs = great acc qs
  | [], acc, _ => rfl
  | q :: qs, acc, h => by
    obtain ⟨h1, h2⟩ := h q (by simp)
    simp only [mostR, great]
    rw [cvt_one hm h1 hr h2]
    simp only [if_true]
    exact mostR_one hm r hr qs _ (fun z hz => h z (by simp [hz]))
/-- The sum of the payments. -/
def sumP : List FamilyPay → Int
  | [] => 0
  | p :: ps => p.Amount + sumP ps
theorem sumP_append : ∀ (a b : List FamilyPay), sumP (a ++ b) = sumP a + sumP b
  | [], b => by simp [sumP]
  | p :: ps, b => by simp only [List.cons_append, sumP, sumP_append ps b]; omega
theorem pays_one {m : Int} (hm : 0 ≤ m ∧ m ≤ 2399) (c : Int) : ∀ (rs pre : List Right), (∀ q ∈ rs, rightOK q ∧ q.Currency = c) → (∀ q ∈ pre, rightOK q ∧ q.Currency = c) →
    sumP (paysR [] m pre rs) = great 0 (pre ++ rs) - great 0 pre ∧ ∀ p ∈ paysR [] m pre rs, 0 ≤ p.Amount ∧ p.Amount ≤ 1000000000000
  | [], pre, _, _ => ⟨by simp [paysR, sumP], fun p hp => by cases hp⟩
  | r :: rs, pre, h, hp => by
    obtain ⟨r1, r2⟩ := h r (by simp)
    have hb := great_bound pre 0 (fun y hy => (hp y hy).1) (by decide)
    have hmo : mostR [] m r 0 pre = great 0 pre := mostR_one hm r r1 pre 0 (fun q hq => ⟨(hp q hq).1, by rw [(hp q hq).2, r2]⟩)
    have hpr : ∀ q ∈ pre ++ [r], rightOK q ∧ q.Currency = c := fun q hq => by
      rcases List.mem_append.1 hq with hq | hq
      · exact hp q hq
      · rw [List.mem_singleton.1 hq]; exact ⟨r1, r2⟩
    obtain ⟨h1, h2⟩ := pays_one hm c rs (pre ++ [r]) (fun q hq => h q (by simp [hq])) hpr
    have hA := r1.2.2.2
    have hpay : (payR [] m pre r).Amount = max 0 (r.Amount - great 0 pre) := by
      unfold payR; rw [hmo]; simp only []; rw [i64_id (by omega) (by omega)]
    refine ⟨?_, fun p hp' => ?_⟩
    · simp only [paysR, sumP]
      rw [h1, hpay, List.append_assoc, List.singleton_append, great_append pre [r] 0]
      simp only [great]
      omega
    · simp only [paysR] at hp'
      rcases List.mem_cons.1 hp' with hp' | hp'
      · rw [hp', hpay]; omega
      · exact h2 p hp'
def setC (c : Int) (y : Right) : Right := { y with Currency := c }
theorem setC_ok {c : Int} (hc : 1 ≤ c ∧ c ≤ 999) {y : Right} (h : rightOK y) : rightOK (setC c y) := ⟨h.1, h.2.1, hc, h.2.2.2⟩
theorem rightsOK_setC {c : Int} (hc : 1 ≤ c ∧ c ≤ 999) {l : List Right} (h : rightsOK l) : rightsOK (l.map (setC c)) := by
  refine ⟨by rw [List.length_map]; exact h.1, fun x hx => ?_⟩
  rw [List.length_map] at hx
  obtain ⟨y, hy, h1, h2⟩ := h.2 x hx
  refine ⟨setC c y, by rw [List.getElem?_map, hy]; rfl, setC_ok hc h1, fun k o hk ho => ?_⟩
  rw [List.getElem?_map] at ho
  cases h3 : l[k]? with
  | none => rw [h3] at ho; cases ho
  | some o' =>
    rw [h3] at ho
    cases ho
    exact h2 k o' hk h3
theorem great_setC (c : Int) : ∀ (l : List Right) (acc : Int), great acc (l.map (setC c)) = great acc l
  | [], _ => rfl
  | q :: qs, acc => by simp only [List.map_cons, great]; exact great_setC c qs _
theorem FamilyPaysTheGreatest_true (d : List pensionlaw24_Raw) (hd : d.length ≤ 9223372036854775807) (i p : Int) : pensionlaw24_FamilyPaysTheGreatest d i p = some true := by
  obtain ⟨l, hl, hok⟩ := List_ok d hd
  have hr := hok.ok
  have hl6 := hr.1
  have h999 : ∀ n, pensionplain_Mod n 999 = some (n % 999) := fun n => Mod_eq (by decide) (by decide)
  have h6 : ∀ n, pensionplain_Mod n 6 = some (n % 6) := fun n => Mod_eq (by decide) (by decide)
  unfold pensionlaw24_FamilyPaysTheGreatest
  rw [hl, Option.bind_some]
  have hc : 1 ≤ 1 + p % 999 ∧ 1 + p % 999 ≤ 999 := by omega
  have ec : i64 (1 + p % 999) = 1 + p % 999 := i64_id (by omega) (by omega)
  generalize hcc : 1 + p % 999 = c at *
  obtain ⟨r, h1, h2⟩ := loopC_FU (f := pensionlaw24_FamilyPaysTheGreatest_l i p) (fun s => ∃ A B, l = A ++ B ∧ s = (great 0 A, (A.length : Int), A.map (setC c) ++ B)) (fun s => l.length - s.2.1.toNat) (fun r => r = true) (s := (0, 0, l)) ⟨[], l, rfl, rfl⟩ (by show l.length - _ < _; omega) (by
    rintro s rec ⟨A, B, hAB, rfl⟩
    unfold pensionlaw24_FamilyPaysTheGreatest_l
    dsimp only
    have hlen : l.length = A.length + B.length := by rw [hAB]; simp
    cases B with
    | cons y B =>
      right
      rw [List.length_cons] at hlen
      have g1 : getI (A.map (setC c) ++ y :: B) (A.length : Int) = some y := by rw [getI_nat]; simp
      have g2 : setI (A.map (setC c) ++ y :: B) (A.length : Int) (setC c y) = (A ++ [y]).map (setC c) ++ B := by
        unfold setI
        rw [if_pos (by omega), Int.toNat_natCast, List.set_append_right _ _ (by simp)]
        simp
      have g3 : getI ((A ++ [y]).map (setC c) ++ B) (A.length : Int) = some (setC c y) := by rw [getI_nat]; simp
      have hpos : decide ((A.length : Int) < ((A.map (setC c) ++ y :: B).length : Int)) = true := by rw [decide_eq_true_eq]; simp; omega
      simp only [hpos, if_true, h999, Option.bind_some, hcc, ec, g1]
      have eset : ({ State := y.State, Basis := y.Basis, Currency := c, Amount := y.Amount } : Right) = setC c y := rfl
      rw [eset, g2, g3, Option.bind_some, i64_id (n := (A.length : Int) + 1) (by omega) (by omega)]
      refine ⟨(great 0 (A ++ [y]), ((A ++ [y]).length : Int), (A ++ [y]).map (setC c) ++ B), ?_, ⟨A ++ [y], B, by rw [hAB]; simp, rfl⟩, by simp; omega⟩
      rw [great_append]
      simp [great, setC]
    | nil =>
      left
      have hA : A = l := by rw [hAB]; simp
      subst hA
      have hr2 := rightsOK_setC hc hr
      have ht : ratesOK [] := ⟨by simp, fun x h => absurd h (Nat.not_lt_zero _)⟩
      have hneg : decide ((A.length : Int) < ((A.map (setC c)).length : Int)) = false := by simp
      rw [List.append_nil]
      simp only [hneg, Bool.false_eq_true, if_false, h6, Option.bind_some, List.append_nil]
      obtain ⟨o, ho, hin, hlen2, hnd, hperm, hs, hs2, hpay⟩ := Payments_seq [] ht (i % 6) 0 (by decide) (A.map (setC c)) hr2
      rw [hpay, awake_eq]
      have hra := rightsAt_length (A.map (setC c)) o hin
      have hpl := paysR_length [] 0 (rightsAt (A.map (setC c)) o) []
      simp only [Option.bind_some]
      have hPl : (paysR [] 0 [] (rightsAt (A.map (setC c)) o)).length = (A.map (setC c)).length := by rw [hpl, hra, hlen2]
      obtain ⟨s1, s2⟩ := pays_one (m := 0) (by decide) c (rightsAt (A.map (setC c)) o) [] (fun q hq => by
        have hq2 := hperm.subset hq
        refine ⟨hr2.mem hq2, ?_⟩
        obtain ⟨y, _, rfl⟩ := List.mem_map.1 hq2
        rfl) (fun q hq => by cases hq)
      have hsum : sumP (paysR [] 0 [] (rightsAt (A.map (setC c)) o)) = great 0 A := by
        rw [s1, List.nil_append, great_perm hperm, great_setC]; simp [great]
      have hgb := great_bound A 0 (fun y hy => hr.mem hy) (by decide)
      have hpl6 : (paysR [] 0 [] (rightsAt (A.map (setC c)) o)).length ≤ 6 := by rw [hpl, hra, hlen2, List.length_map]; exact hl6
      generalize paysR [] 0 [] (rightsAt (A.map (setC c)) o) = P at *
      have hnn : ∀ Q : List FamilyPay, (∀ p ∈ Q, 0 ≤ p.Amount ∧ p.Amount ≤ 1000000000000) → 0 ≤ sumP Q := by
        intro Q
        induction Q with
        | nil => intro _; simp [sumP]
        | cons q Q ih => intro h; simp only [sumP]; have := h q (by simp); have := ih (fun z hz => h z (by simp [hz])); omega
      obtain ⟨r, h1, h2⟩ := loopC_FU (f := pensionlaw24_FamilyPaysTheGreatest_l2 (great 0 A) (P, 0)) (fun s => ∃ C D, P = C ++ D ∧ s = (sumP C, (C.length : Int))) (fun s => P.length - s.2.toNat) (fun r => r = true) (s := (0, 0)) ⟨[], P, rfl, rfl⟩ (by show P.length - _ < _; omega) (by
        rintro s rec ⟨C, D, hCD, rfl⟩
        unfold pensionlaw24_FamilyPaysTheGreatest_l2
        dsimp only
        have hlen3 : P.length = C.length + D.length := by rw [hCD]; simp
        cases D with
        | nil =>
          left
          have : C = P := by rw [hCD]; simp
          subst this
          rw [if_neg (by simp)]
          exact ⟨_, rfl, by simpa using hsum⟩
        | cons q D =>
          right
          rw [List.length_cons] at hlen3
          have hq := s2 q (by rw [hCD]; simp)
          have g1 : getI P (C.length : Int) = some q := by rw [hCD, getI_nat]; simp
          have hC : 0 ≤ sumP C ∧ sumP C ≤ 1000000000000 := by
            have e : sumP P = sumP C + sumP (q :: D) := by rw [hCD, sumP_append]
            have n1 := hnn C (fun z hz => s2 z (by rw [hCD]; simp [hz]))
            have n2 := hnn (q :: D) (fun z hz => s2 z (by rw [hCD]; simp [List.mem_cons.1 hz]))
            omega
          have e1 : decide ((C.length : Int) < (P.length : Int)) = true := by rw [decide_eq_true_eq]; omega
          have e2 : decide (q.Amount < 0) = false := by rw [decide_eq_false_iff_not]; omega
          have e3 : decide (1000000000000 < q.Amount) = false := by rw [decide_eq_false_iff_not]; omega
          simp only [e1, if_true, g1, Option.bind_some, e2, Bool.false_eq_true, if_false, e3]
          rw [i64_id (n := sumP C + q.Amount) (by omega) (by omega), i64_id (n := (C.length : Int) + 1) (by omega) (by omega)]
          refine ⟨(sumP (C ++ [q]), ((C ++ [q]).length : Int)), ?_, ⟨C ++ [q], D, by rw [hCD]; simp, rfl⟩, by simp; omega⟩
          rw [sumP_append]
          simp [sumP])
      exact ⟨r, (if_neg (by simp [hPl])).trans h1, h2⟩)
  rw [h1, h2]
end Go.PL
