/- What the small functions compute: remainders, months, fractions, tables of rates. Plain Lean. -/
import Derived.Test.YtcgfjcpggbcloaaDoorF
import Derived.Test.YtcgfjcpggbcloaaDoorPure
set_option linter.unusedSimpArgs false
set_option linter.unusedVariables false
namespace Go.PL
open Go

theorem Mod_eq {n m : Int} (h0 : 0 < m) (h1 : m ≤ 4611686018427387904) : pensionplain_Mod n m = some (n % m) := by
  unfold pensionplain_Mod pensionplain_Mod_j
  rw [remI_of (by omega), Option.bind_some]
  have h6 := Int.emod_nonneg n (by omega : m ≠ 0)
  have h7 := Int.emod_lt_of_pos n h0
  have h4 : n.tmod m = n % m ∨ n.tmod m = n % m - m := by
    rw [Int.tmod_eq_emod]
    split
    · left; simp
    · right; omega
  by_cases h : n.tmod m < 0
  · rw [if_pos (by simpa using h), i64_id (by omega) (by omega)]
    congr 1; omega
  · rw [if_neg (by simpa using h)]
    congr 1; omega

theorem size_eq1 {x : Int} (h0 : -1000000000000000 ≤ x) (h1 : x ≤ 1000000000000000) : rational_size x = some (x.natAbs : Int) := by
  unfold rational_size
  split
  · rename_i h; simp only [decide_eq_true_eq] at h
    congr 1; rw [u64_eq, u64_eq]; omega
  · rename_i h; simp only [decide_eq_true_eq] at h
    congr 1; rw [u64_id (by omega) (by omega)]; omega
theorem size_eq2 {x : Int} (h0 : -1000000000000000 ≤ x) (h1 : x ≤ 1000000000000000) : pensionref1_size x = some (x.natAbs : Int) := by
  unfold pensionref1_size
  split
  · rename_i h; simp only [decide_eq_true_eq] at h
    congr 1; rw [i64_id (n := x + 1) (by omega) (by omega), i64_id (by omega) (by omega), u64_id (n := -(x + 1)) (by omega) (by omega), u64_id (by omega) (by omega)]; omega
  · rename_i h; simp only [decide_eq_true_eq] at h
    congr 1; rw [u64_id (by omega) (by omega)]; omega
theorem size_eq3 {x : Int} (h0 : -1000000000000000 ≤ x) (h1 : x ≤ 1000000000000000) : money_size x = some (x.natAbs : Int) := by
  unfold money_size
  split
  · rename_i h; simp only [decide_eq_true_eq] at h
    congr 1; rw [i64_id (by omega) (by omega), u64_id (by omega) (by omega)]; omega
  · rename_i h; simp only [decide_eq_true_eq] at h
    congr 1; rw [u64_id (by omega) (by omega)]; omega

theorem gcd_step {a b : Nat} (hb : b ≠ 0) : ((b : Int) != 0) = true ∧ remI (a : Int) (b : Int) = some ((a % b : Nat) : Int) := by
  refine ⟨by simpa using hb, ?_⟩
  rw [remI_of (by exact_mod_cast hb), Int.tmod_eq_emod_of_nonneg (Int.natCast_nonneg a)]
  rfl
theorem gcd_eq1 (a b : Nat) (h : b < 2 ^ 64) : rational_gcd a b = some (Nat.gcd a b : Int) := by
  unfold rational_gcd
  obtain ⟨r, h1, h2⟩ := loopC_FU (f := rational_gcd_l) (fun s => ∃ x y : Nat, s = ((x : Int), (y : Int)) ∧ Nat.gcd x y = Nat.gcd a b ∧ y ≤ b) (fun s => s.2.toNat) (fun r => r = (Nat.gcd a b : Int)) (s := ((a : Int), (b : Int)))
    ⟨a, b, rfl, rfl, Nat.le_refl _⟩ (by simp; omega) (by
      rintro s rec ⟨x, y, rfl, hg, hy⟩
      unfold rational_gcd_l
      by_cases h0 : y = 0
      · subst h0
        left; refine ⟨_, rfl, ?_⟩
        rw [← hg]; simp
      · right
        obtain ⟨e1, e2⟩ := gcd_step (a := x) h0
        refine ⟨((y : Int), ((x % y : Nat) : Int)), ?_, ⟨y, x % y, rfl, ?_, ?_⟩, ?_⟩
        · simp only [e1, if_true, e2, Option.bind_some]
        · rw [← hg, Nat.gcd_comm x y, Nat.gcd_rec y x, Nat.gcd_comm]
        · exact Nat.le_trans (Nat.le_of_lt (Nat.mod_lt _ (by omega))) hy
        · have := Nat.mod_lt x (Nat.pos_of_ne_zero h0); simp only [Int.toNat_natCast]; exact this)
  rw [h1, h2]
theorem gcd_eq2 (a b : Nat) (h : b < 2 ^ 64) : pensionref1_gcd a b = some (Nat.gcd a b : Int) := by
  have e : pensionref1_gcd a b = rational_gcd a b := rfl
  rw [e]; exact gcd_eq1 a b h

/-- A fraction in lowest terms, in range. -/
def fracOK (f : Fraction) : Prop := 1 ≤ f.Den ∧ f.Den ≤ 1000000000 ∧ -1000000000000000 ≤ f.Num ∧ f.Num ≤ 1000000000000000 ∧ Nat.gcd f.Num.natAbs f.Den.natAbs = 1
instance (f : Fraction) : Decidable (fracOK f) := by unfold fracOK; infer_instance
theorem Valid_eq (f : Fraction) : rational_Valid f = some (decide (fracOK f)) := by
  unfold rational_Valid
  by_cases h : 1 ≤ f.Den ∧ f.Den ≤ 1000000000 ∧ -1000000000000000 ≤ f.Num ∧ f.Num ≤ 1000000000000000
  · obtain ⟨h1, h2, h3, h4⟩ := h
    have hd : f.Den.natAbs < 2 ^ 64 := by omega
    rw [size_eq1 h3 h4, size_eq1 (by omega) (by omega)]
    simp only [Option.bind_some, h1, h2, h3, h4, decide_true, Bool.and_self, if_true, gcd_eq1 _ _ hd]
    congr 1
    rw [Bool.eq_iff_iff]
    simp only [beq_iff_eq, decide_eq_true_eq, fracOK, h1, h2, h3, h4, true_and]
    omega
  · have hn : ¬ fracOK f := fun hh => h ⟨hh.1, hh.2.1, hh.2.2.1, hh.2.2.2.1⟩
    have : (((decide (1 ≤ f.Den) && decide (f.Den ≤ 1000000000)) && decide ((-1000000000000000) ≤ f.Num)) && decide (f.Num ≤ 1000000000000000)) = false := by
      rw [Bool.eq_false_iff]; intro hh
      simp only [Bool.and_eq_true, decide_eq_true_eq] at hh
      exact h ⟨hh.1.1.1, hh.1.1.2, hh.1.2, hh.2⟩
    rw [this]; simp [hn]
theorem ValidFraction_eq (f : Fraction) : pensionref1_ValidFraction f = some (decide (fracOK f)) := by
  unfold pensionref1_ValidFraction
  by_cases h : 1 ≤ f.Den ∧ f.Den ≤ 1000000000 ∧ -1000000000000000 ≤ f.Num ∧ f.Num ≤ 1000000000000000
  · obtain ⟨h1, h2, h3, h4⟩ := h
    have hd : f.Den.natAbs < 2 ^ 64 := by omega
    have hu : u64 f.Den = (f.Den.natAbs : Int) := by rw [u64_id (by omega) (by omega)]; omega
    rw [size_eq2 h3 h4, hu]
    simp only [Option.bind_some, h1, h2, h3, h4, decide_true, Bool.and_self, if_true, gcd_eq2 _ _ hd]
    congr 1
    rw [Bool.eq_iff_iff]
    simp only [beq_iff_eq, decide_eq_true_eq, fracOK, h1, h2, h3, h4, true_and]
    omega
  · have hn : ¬ fracOK f := fun hh => h ⟨hh.1, hh.2.1, hh.2.2.1, hh.2.2.2.1⟩
    have : (((decide (1 ≤ f.Den) && decide (f.Den ≤ 1000000000)) && decide ((-1000000000000000) ≤ f.Num)) && decide (f.Num ≤ 1000000000000000)) = false := by
      rw [Bool.eq_false_iff]; intro hh
      simp only [Bool.and_eq_true, decide_eq_true_eq] at hh
      exact h ⟨hh.1.1.1, hh.1.1.2, hh.1.2, hh.2⟩
    rw [this]; simp [hn]

theorem month_eq (m : Int) : money_month m = some (decide (0 ≤ m) && decide (m ≤ 2399)) := by
  unfold money_month calendar_MonthDays calendar_validMonth
  by_cases h : 0 ≤ m ∧ m ≤ 2399
  · obtain ⟨h0, h1⟩ := h
    have e1 : m.tdiv 12 = m / 12 := tdiv_nonneg h0
    have e2 : m.tmod 12 = m % 12 := tmod_nonneg h0
    have key : ∀ y : Int, ∃ d, calendar_monthLength y (m % 12 + 1) = some d ∧ 0 < d := by
      intro y
      unfold calendar_monthLength calendar_leap
      by_cases h2 : m % 12 + 1 = 2
      · simp only [h2, beq_self_eq_true, if_true, Option.bind_some]
        split
        · exact ⟨29, rfl, by decide⟩
        · exact ⟨28, rfl, by decide⟩
      · have h3 : (m % 12 + 1 == 2) = false := by simpa using h2
        simp only [h3, Bool.false_eq_true, if_false, Option.bind_some]
        rw [i64_id (by omega) (by omega), show m % 12 + 1 - 1 = m % 12 by omega]
        have h4 : 0 ≤ m % 12 := by omega
        have h5 : m % 12 < 12 := by omega
        generalize m % 12 = k at *
        have : ∀ k : Nat, k < 12 → ∃ d, Option.bind (getI [31, 28, 31, 30, 31, 30, 31, 31, 30, 31, 30, 31] (k : Int)) (fun y => some y) = some d ∧ (0 : Int) < d := by decide
        have h6 := this k.toNat (by omega)
        rw [Int.toNat_of_nonneg h4] at h6
        exact h6
    obtain ⟨d, hd, hd0⟩ := key (i64 (1900 + i64 (m.tdiv 12)))
    simp only [h0, h1, decide_true, Bool.and_self, Option.bind_some, Bool.not_true, Bool.false_eq_true, if_false]
    rw [e2, i64_id (n := m % 12 + 1) (by omega) (by omega), hd]
    simp [hd0]
  · have : (decide (0 ≤ m) && decide (m ≤ 2399)) = false := by
      rw [Bool.eq_false_iff]; intro hh; simp only [Bool.and_eq_true, decide_eq_true_eq] at hh; exact h hh
    simp [this]

/-- A row of a table of rates that is in order by itself. -/
def rateOK (y : Rate) : Prop := (1 ≤ y.Currency ∧ y.Currency ≤ 999) ∧ (0 ≤ y.Month ∧ y.Month ≤ 2399) ∧ fracOK y.Value ∧ (1 ≤ y.Value.Num ∧ y.Value.Num ≤ 1000000) ∧ (1 ≤ y.Value.Den ∧ y.Value.Den ≤ 1000000)
instance (y : Rate) : Decidable (rateOK y) := by unfold rateOK; infer_instance
/-- Row y' may stand ahead of row y. -/
def rateLt (y' y : Rate) : Prop := y'.Currency < y.Currency ∨ y'.Currency = y.Currency ∧ y'.Month < y.Month
instance (y' y : Rate) : Decidable (rateLt y' y) := by unfold rateLt; infer_instance
/-- Row x of the table is in order. -/
def rowOK (t : List Rate) (x : Nat) : Prop := ∃ y, t[x]? = some y ∧ rateOK y ∧ ∀ y', 0 < x → t[x - 1]? = some y' → rateLt y' y
theorem money_CheckRates_round (t : List Rate) (hl : t.length ≤ 40) (rec : Int → Option Int) (x : Nat) (hx : x < t.length) :
    (money_CheckRates_l t rec x = rec ((x + 1 : Nat) : Int) ∧ rowOK t x) ∨ (money_CheckRates_l t rec x = some 1 ∧ ¬ rowOK t x) := by
  have hy : t[x]? = some t[x] := List.getElem?_eq_getElem hx
  have hgx : getI t (x : Int) = some t[x] := by rw [getI_nat]; exact hy
  generalize t[x] = y at *
  unfold money_CheckRates_l
  rw [if_pos (by simp; omega), hgx]
  simp only [Option.bind_some, month_eq, Valid_eq, money_currency, money_small, ite_or]
  by_cases hr : rateOK y
  · obtain ⟨⟨a1, a2⟩, ⟨a3, a4⟩, a5, ⟨a6, a7⟩, a8, a9⟩ := hr
    simp only [a1, a2, a3, a4, a5, a6, a7, a8, a9, decide_true, Bool.and_self, Bool.not_true, Bool.or_self, Bool.false_eq_true, if_false]
    by_cases h0 : x = 0
    · subst h0
      left
      refine ⟨by simp [i64_id], ⟨y, hy, ⟨⟨a1, a2⟩, ⟨a3, a4⟩, a5, ⟨a6, a7⟩, a8, a9⟩, fun _ h => absurd h (Nat.lt_irrefl 0)⟩⟩
    · have hx1 : x - 1 < t.length := by omega
      have hy' : t[x - 1]? = some t[x - 1] := List.getElem?_eq_getElem hx1
      have e1 : i64 ((x : Int) - 1) = ((x - 1 : Nat) : Int) := by rw [i64_id (by omega) (by omega)]; omega
      have hgx' : getI t (i64 ((x : Int) - 1)) = some t[x - 1] := by rw [e1, getI_nat]; exact hy'
      generalize t[x - 1] = y' at *
      have hpos : decide ((0 : Int) < x) = true := by simp; omega
      rw [if_pos hpos, hgx']
      simp only [Option.bind_some, ite_or, ite_and]
      by_cases hlt : rateLt y' y
      · left
        have : (decide (y.Currency < y'.Currency) || (y'.Currency == y.Currency && decide (y.Month ≤ y'.Month))) = false := by
          unfold rateLt at hlt
          rw [Bool.eq_false_iff]; intro hh
          simp only [Bool.or_eq_true, Bool.and_eq_true, decide_eq_true_eq, beq_iff_eq] at hh
          omega
        rw [this]
        refine ⟨?_, ⟨y, hy, ⟨⟨a1, a2⟩, ⟨a3, a4⟩, a5, ⟨a6, a7⟩, a8, a9⟩, fun z _ hz => ?_⟩⟩
        · rw [i64_id (by omega) (by omega)]; simp
        · rw [hy'] at hz; cases hz; exact hlt
      · right
        have : (decide (y.Currency < y'.Currency) || (y'.Currency == y.Currency && decide (y.Month ≤ y'.Month))) = true := by
          unfold rateLt at hlt
          simp only [Bool.or_eq_true, Bool.and_eq_true, decide_eq_true_eq, beq_iff_eq]
          omega
        rw [this]
        refine ⟨by simp, ?_⟩
        rintro ⟨z, hz, _, h3⟩
        rw [hy] at hz; cases hz
        exact hlt (h3 y' (by omega) hy')
  · right
    have : ((((!(decide (1 ≤ y.Currency) && decide (y.Currency ≤ 999)) || !(decide (0 ≤ y.Month) && decide (y.Month ≤ 2399))) || !decide (fracOK y.Value)) || !(decide (1 ≤ y.Value.Num) && decide (y.Value.Num ≤ 1000000))) || !(decide (1 ≤ y.Value.Den) && decide (y.Value.Den ≤ 1000000))) = true := by
      cases hb : ((((!(decide (1 ≤ y.Currency) && decide (y.Currency ≤ 999)) || !(decide (0 ≤ y.Month) && decide (y.Month ≤ 2399))) || !decide (fracOK y.Value)) || !(decide (1 ≤ y.Value.Num) && decide (y.Value.Num ≤ 1000000))) || !(decide (1 ≤ y.Value.Den) && decide (y.Value.Den ≤ 1000000))) with
      | true => rfl
      | false =>
        exfalso; apply hr
        simp only [Bool.or_eq_false_iff, Bool.not_eq_false', Bool.and_eq_true, decide_eq_true_eq] at hb
        exact ⟨hb.1.1.1.1, hb.1.1.1.2, hb.1.1.2, hb.1.2, hb.2⟩
    rw [this]
    refine ⟨by simp, ?_⟩
    rintro ⟨z, hz, h2, _⟩
    rw [hy] at hz; cases hz
    exact hr h2
theorem ref_CheckRates_round (t : List Rate) (hl : t.length ≤ 40) (rec : Int → Option Int) (x : Nat) (hx : x < t.length) :
    (pensionref1_CheckRates_l t rec x = rec ((x + 1 : Nat) : Int) ∧ rowOK t x) ∨ (pensionref1_CheckRates_l t rec x = some 1 ∧ ¬ rowOK t x) := by
  have hy : t[x]? = some t[x] := List.getElem?_eq_getElem hx
  have hgx : getI t (x : Int) = some t[x] := by rw [getI_nat]; exact hy
  generalize t[x] = y at *
  unfold pensionref1_CheckRates_l
  rw [if_pos (by simp; omega)]
  simp only [hgx, Option.bind_some, pensionref1_ValidMonth, ValidFraction_eq, ite_or]
  by_cases hr : rateOK y
  · obtain ⟨⟨a1, a2⟩, ⟨a3, a4⟩, a5, ⟨a6, a7⟩, a8, a9⟩ := hr
    have b1 : ¬ y.Currency < 1 := by omega
    have b2 : ¬ 999 < y.Currency := by omega
    have b3 : ¬ y.Value.Num < 1 := by omega
    have b4 : ¬ 1000000 < y.Value.Num := by omega
    have b5 : ¬ 1000000 < y.Value.Den := by omega
    simp only [a3, a4, a5, b1, b2, b3, b4, b5, decide_true, decide_false, Bool.and_self, Bool.not_true, Bool.or_self, Bool.false_eq_true, if_false]
    by_cases h0 : x = 0
    · subst h0
      left
      refine ⟨by simp [i64_id], ⟨y, hy, ⟨⟨a1, a2⟩, ⟨a3, a4⟩, a5, ⟨a6, a7⟩, a8, a9⟩, fun _ h => absurd h (Nat.lt_irrefl 0)⟩⟩
    · have hx1 : x - 1 < t.length := by omega
      have hy' : t[x - 1]? = some t[x - 1] := List.getElem?_eq_getElem hx1
      have e1 : i64 ((x : Int) - 1) = ((x - 1 : Nat) : Int) := by rw [i64_id (by omega) (by omega)]; omega
      have hgx' : getI t (i64 ((x : Int) - 1)) = some t[x - 1] := by rw [e1, getI_nat]; exact hy'
      generalize t[x - 1] = y' at *
      have hpos : decide ((0 : Int) < x) = true := by simp; omega
      rw [if_pos hpos]
      simp only [hgx', Option.bind_some, ite_or, ite_and]
      by_cases hlt : rateLt y' y
      · left
        have : (decide (y.Currency < y'.Currency) || (y'.Currency == y.Currency && decide (y.Month ≤ y'.Month))) = false := by
          unfold rateLt at hlt
          rw [Bool.eq_false_iff]; intro hh
          simp only [Bool.or_eq_true, Bool.and_eq_true, decide_eq_true_eq, beq_iff_eq] at hh
          omega
        rw [this]
        refine ⟨?_, ⟨y, hy, ⟨⟨a1, a2⟩, ⟨a3, a4⟩, a5, ⟨a6, a7⟩, a8, a9⟩, fun z _ hz => ?_⟩⟩
        · rw [i64_id (by omega) (by omega)]; simp
        · rw [hy'] at hz; cases hz; exact hlt
      · right
        have : (decide (y.Currency < y'.Currency) || (y'.Currency == y.Currency && decide (y.Month ≤ y'.Month))) = true := by
          unfold rateLt at hlt
          simp only [Bool.or_eq_true, Bool.and_eq_true, decide_eq_true_eq, beq_iff_eq]
          omega
        rw [this]
        refine ⟨by simp, ?_⟩
        rintro ⟨z, hz, _, h3⟩
        rw [hy] at hz; cases hz
        exact hlt (h3 y' (by omega) hy')
  · right
    have : ((((((decide (y.Currency < 1) || decide (999 < y.Currency)) || !(decide (0 ≤ y.Month) && decide (y.Month ≤ 2399))) || !decide (fracOK y.Value)) || decide (y.Value.Num < 1)) || decide (1000000 < y.Value.Num)) || decide (1000000 < y.Value.Den)) = true := by
      cases hb : ((((((decide (y.Currency < 1) || decide (999 < y.Currency)) || !(decide (0 ≤ y.Month) && decide (y.Month ≤ 2399))) || !decide (fracOK y.Value)) || decide (y.Value.Num < 1)) || decide (1000000 < y.Value.Num)) || decide (1000000 < y.Value.Den)) with
      | true => rfl
      | false =>
        exfalso; apply hr
        simp only [Bool.or_eq_false_iff, Bool.not_eq_false', Bool.and_eq_true, decide_eq_true_eq, decide_eq_false_iff_not] at hb
        obtain ⟨⟨⟨⟨⟨⟨h1, h2⟩, h3⟩, h4⟩, h5⟩, h6⟩, h7⟩ := hb
        have h8 := h4.1
        exact ⟨⟨by omega, by omega⟩, h3, h4, ⟨by omega, by omega⟩, h8, by omega⟩
    rw [this]
    refine ⟨by simp, ?_⟩
    rintro ⟨z, hz, h2, _⟩
    rw [hy] at hz; cases hz
    exact hr h2
/-- A table of rates that is in order. -/
def ratesOK (t : List Rate) : Prop := t.length ≤ 40 ∧ ∀ x, x < t.length → rowOK t x
theorem rates_loop (f : (Int → Option Int) → Int → Option Int) (t : List Rate) (hl : t.length ≤ 40)
    (hround : ∀ rec (x : Nat), x < t.length → (f rec x = rec ((x + 1 : Nat) : Int) ∧ rowOK t x) ∨ (f rec x = some 1 ∧ ¬ rowOK t x)) (hend : ∀ rec, f rec (t.length : Int) = some 0) :
    ∃ r, loopC FU f 0 = some r ∧ (r = 0 ∧ ratesOK t ∨ r = 1 ∧ ¬ ratesOK t) := by
  refine loopC_FU (fun s => ∃ x : Nat, s = (x : Int) ∧ x ≤ t.length ∧ ∀ y, y < x → rowOK t y) (fun s => t.length - s.toNat) _ ⟨0, rfl, Nat.zero_le _, fun _ h => absurd h (Nat.not_lt_zero _)⟩ (by show t.length - _ < _; omega) ?_
  rintro s rec ⟨x, rfl, hx, hall⟩
  by_cases h : x < t.length
  · rcases hround rec x h with ⟨h1, h2⟩ | ⟨h1, h2⟩
    · right
      refine ⟨_, h1, ⟨x + 1, rfl, h, fun y hy => ?_⟩, by simp only [Int.toNat_natCast]; omega⟩
      by_cases hyx : y = x
      · rw [hyx]; exact h2
      · exact hall y (by omega)
    · left
      exact ⟨1, h1, .inr ⟨rfl, fun hh => h2 (hh.2 x h)⟩⟩
  · have : x = t.length := by omega
    subst this
    left
    exact ⟨0, hend rec, .inl ⟨rfl, hl, hall⟩⟩
theorem money_CheckRates_eq (t : List Rate) : ∃ r, money_CheckRates t = some r ∧ (r = 0 ∧ ratesOK t ∨ r ≠ 0 ∧ ¬ ratesOK t) := by
  unfold money_CheckRates
  by_cases h : 40 < t.length
  · rw [if_pos (by simp; omega)]
    exact ⟨7, rfl, .inr ⟨by decide, fun hh => absurd hh.1 (by omega)⟩⟩
  · rw [if_neg (by simp; omega)]
    obtain ⟨r, h1, h2⟩ := rates_loop (money_CheckRates_l t) t (by omega) (fun rec x hx => money_CheckRates_round t (by omega) rec x hx) (fun rec => by unfold money_CheckRates_l; rw [if_neg (by simp)])
    exact ⟨r, h1, h2.imp id (fun hh => ⟨by omega, hh.2⟩)⟩
theorem ref_CheckRates_eq (t : List Rate) : ∃ r, pensionref1_CheckRates t = some r ∧ (r = 0 ∧ ratesOK t ∨ r ≠ 0 ∧ ¬ ratesOK t) := by
  unfold pensionref1_CheckRates
  by_cases h : 40 < t.length
  · rw [if_pos (by simp; omega)]
    exact ⟨7, rfl, .inr ⟨by decide, fun hh => absurd hh.1 (by omega)⟩⟩
  · rw [if_neg (by simp; omega)]
    obtain ⟨r, h1, h2⟩ := rates_loop (pensionref1_CheckRates_l t) t (by omega) (fun rec x hx => ref_CheckRates_round t (by omega) rec x hx) (fun rec => by unfold pensionref1_CheckRates_l; rw [if_neg (by simp)])
    exact ⟨r, h1, h2.imp id (fun hh => ⟨by omega, hh.2⟩)⟩
end Go.PL
