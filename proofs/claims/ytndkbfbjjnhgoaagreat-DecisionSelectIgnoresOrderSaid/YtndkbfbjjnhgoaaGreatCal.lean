/- Months and days: the program's calendar and the reference's. Plain Lean. -/
import Derived.Test.YtndkbfbjjnhgoaaGreatF
import Derived.Test.YtndkbfbjjnhgoaaGreatPure
set_option linter.unusedSimpArgs false
set_option linter.unusedVariables false
namespace Go.PL
open Go

theorem Mod_eq {n m : Int} (h0 : 0 < m) (h1 : m ≤ 4611686018427387904) : pensionplain_Mod n m = some (n % m) := by
  unfold pensionplain_Mod pensionplain_Mod_j
  rw [remI_of (by omega), Option.bind_some]
  have h6 := Int.emod_nonneg n (by omega : m ≠ 0)
  have h7 := Int.emod_lt_of_pos n h0
  have h4 : n.tmod m = n % m ∨ n.tmod m = n % m - m := by
    rw [Int.tmod_eq_emod]
    split
    · left; simp
    · right; omega
  by_cases h : n.tmod m < 0
  · rw [if_pos (by simpa using h), i64_id (by omega) (by omega)]
    congr 1; omega
  · rw [if_neg (by simpa using h)]
    congr 1; omega

/-- The length of a month of a year. -/
def lenM (y mo : Int) : Int := if mo = 2 then (if (y % 4 = 0 ∧ y % 100 ≠ 0) ∨ y % 400 = 0 then 29 else 28) else if mo = 4 ∨ mo = 6 ∨ mo = 9 ∨ mo = 11 then 30 else 31
theorem lenM_range (y mo : Int) : 28 ≤ lenM y mo ∧ lenM y mo ≤ 31 := by unfold lenM; split <;> split <;> omega
def mlen (m : Nat) : Int := lenM (1900 + ((m / 12 : Nat) : Int)) (((m % 12 : Nat) : Int) + 1)
/-- The first day of a month, from January 1900 on. -/
def S : Nat → Int
  | 0 => 0
  | m + 1 => S m + mlen m
theorem mlen_range (m : Nat) : 28 ≤ mlen m ∧ mlen m ≤ 31 := lenM_range _ _
theorem S_le {a b : Nat} (h : a ≤ b) : S a + 28 * ((b : Int) - a) ≤ S b := by
  induction b with
  | zero => have : a = 0 := by omega
            subst this; simp
  | succ b ih =>
    by_cases hab : a ≤ b
    · have := ih hab; have := mlen_range b; simp only [S]; omega
    · have : a = b + 1 := by omega
      subst this; simp
theorem S_mono {a b : Nat} (h : a ≤ b) : S a ≤ S b := by have := S_le h; omega
theorem S_lt {a b : Nat} (h : a < b) : S a < S b := by have := S_le (Nat.le_of_lt h); omega
theorem S_bound : ∀ m : Nat, 0 ≤ S m ∧ S m ≤ 31 * (m : Int)
  | 0 => by simp [S]
  | m + 1 => by have := S_bound m; have := mlen_range m; simp only [S]; omega

theorem cal_monthLength {y mo : Int} (hy : 0 ≤ y ∧ y ≤ 100000) (hm : 1 ≤ mo ∧ mo ≤ 12) : calendar_monthLength y mo = some (lenM y mo) := by
  unfold calendar_monthLength calendar_leap lenM
  rw [tmod_nonneg hy.1, tmod_nonneg hy.1, tmod_nonneg hy.1, i64_id (by omega) (by omega)]
  by_cases h2 : mo = 2
  · subst h2
    simp only [beq_self_eq_true, if_true, Option.bind_some]
    by_cases hl : (y % 4 = 0 ∧ y % 100 ≠ 0) ∨ y % 400 = 0
    · rw [if_pos hl, if_pos (by simp; simpa using hl)]
    · rw [if_neg hl, if_neg (by simp; simpa using hl)]; rfl
  · rw [if_neg (by simpa using h2)]
    simp only [Option.bind_some, Bool.false_eq_true, if_false, if_neg h2]
    have hc : mo = 1 ∨ mo = 3 ∨ mo = 4 ∨ mo = 5 ∨ mo = 6 ∨ mo = 7 ∨ mo = 8 ∨ mo = 9 ∨ mo = 10 ∨ mo = 11 ∨ mo = 12 := by omega
    rcases hc with h | h | h | h | h | h | h | h | h | h | h <;> subst h <;> rfl
theorem ref_length {y mo : Int} (hy : 0 ≤ y ∧ y ≤ 100000) (hm : 1 ≤ mo ∧ mo ≤ 12) : pensionref1_length y mo = some (lenM y mo) := by
  unfold pensionref1_length pensionref1_length_j pensionref1_leap lenM
  rw [tmod_nonneg hy.1, tmod_nonneg hy.1, tmod_nonneg hy.1]
  by_cases h2 : mo = 2
  · subst h2
    simp only [beq_self_eq_true, if_true, Option.bind_some]
    by_cases hl : (y % 4 = 0 ∧ y % 100 ≠ 0) ∨ y % 400 = 0
    · rw [if_pos hl, if_pos (by simp; omega)]
    · rw [if_neg hl, if_neg (by simp; omega)]
  · simp only [if_neg h2]
    have hc : mo = 1 ∨ mo = 3 ∨ mo = 4 ∨ mo = 5 ∨ mo = 6 ∨ mo = 7 ∨ mo = 8 ∨ mo = 9 ∨ mo = 10 ∨ mo = 11 ∨ mo = 12 := by omega
    rcases hc with h | h | h | h | h | h | h | h | h | h | h <;> subst h <;> rfl
theorem month_parts (m : Nat) (hm : m ≤ 100000) : i64 (1900 + i64 (Int.tdiv (m : Int) 12)) = 1900 + ((m / 12 : Nat) : Int) ∧ i64 (Int.tmod (m : Int) 12 + 1) = ((m % 12 : Nat) : Int) + 1 := by
  rw [tdiv_nonneg (Int.natCast_nonneg m), tmod_nonneg (Int.natCast_nonneg m), i64_id (n := (m : Int) / 12) (by omega) (by omega), i64_id (by omega) (by omega), i64_id (by omega) (by omega)]
  omega
theorem ref_mlen (m : Nat) (hm : m ≤ 100000) : pensionref1_length (i64 (1900 + i64 (Int.tdiv (m : Int) 12))) (i64 (Int.tmod (m : Int) 12 + 1)) = some (mlen m) := by
  obtain ⟨h1, h2⟩ := month_parts m hm
  rw [h1, h2, ref_length (by omega) (by omega)]; rfl
theorem ref_start (m : Nat) (hm : m ≤ 100000) : pensionref1_start (m : Int) = some (S m) := by
  unfold pensionref1_start
  obtain ⟨r, h1, h2⟩ := loopC_FU (f := pensionref1_start_l (m : Int)) (fun s => ∃ x : Nat, s = (S x, (x : Int)) ∧ x ≤ m) (fun s => m - s.2.toNat) (fun r => r = S m) (s := (0, 0)) ⟨0, rfl, Nat.zero_le _⟩ (by show m - _ < _; omega) (by
    rintro s rec ⟨x, rfl, hx⟩
    unfold pensionref1_start_l
    dsimp only
    by_cases h : x < m
    · right
      have hb := S_bound x
      have hl := mlen_range x
      rw [if_pos (by simp; omega), ref_mlen x (by omega), Option.bind_some, i64_id (n := S x + mlen x) (by omega) (by omega), i64_id (n := (x : Int) + 1) (by omega) (by omega)]
      exact ⟨(S (x + 1), ((x + 1 : Nat) : Int)), by simp [S], ⟨x + 1, rfl, h⟩, by simp only [Int.toNat_natCast]; omega⟩
    · left
      have : x = m := by omega
      subst this
      rw [if_neg (by simp)]
      exact ⟨_, rfl, rfl⟩)
  rw [h1, h2]
/-- Every day lies in one month. -/
theorem month_of : ∀ (n : Nat) {d : Int}, 0 ≤ d → d < S n → ∃ m : Nat, m < n ∧ S m ≤ d ∧ d < S (m + 1)
  | 0, d, h0, h1 => by simp [S] at h1; omega
  | n + 1, d, h0, h1 => by
    by_cases h : d < S n
    · obtain ⟨m, a, b, c⟩ := month_of n h0 h; exact ⟨m, by omega, b, c⟩
    · exact ⟨n, by omega, by omega, h1⟩
theorem month_uniq {a b : Nat} {d : Int} (ha : S a ≤ d) (ha2 : d < S (a + 1)) (hb : S b ≤ d) (hb2 : d < S (b + 1)) : a = b := by
  rcases Nat.lt_trichotomy a b with h | h | h
  · have := S_mono (show a + 1 ≤ b by omega); omega
  · exact h
  · have := S_mono (show b + 1 ≤ a by omega); omega
theorem ref_monthAt {d : Int} (h0 : 0 ≤ d) {m : Nat} (hm : m ≤ 2400) (h1 : S m ≤ d) (h2 : d < S (m + 1)) : pensionref1_monthAt d = some ((m : Int), d - S m) := by
  unfold pensionref1_monthAt
  have hbm := S_bound (m + 1)
  obtain ⟨r, h3, h4⟩ := loopC_FU (f := pensionref1_monthAt_l) (fun s => ∃ x : Nat, s = (d - S x, (x : Int)) ∧ x ≤ m) (fun s => m + 1 - s.2.toNat) (fun r => r = ((m : Int), d - S m)) (s := (d, 0)) ⟨0, by simp [S], Nat.zero_le _⟩ (by show m + 1 - _ < _; omega) (by
    rintro s rec ⟨x, rfl, hx⟩
    unfold pensionref1_monthAt_l
    dsimp only
    have hb := S_bound x
    have hl := mlen_range x
    rw [ref_mlen x (by omega), Option.bind_some]
    by_cases h : x < m
    · right
      have hS := S_mono (show x + 1 ≤ m by omega)
      have e : S (x + 1) = S x + mlen x := rfl
      rw [if_neg (by simp; omega), i64_id (n := d - S x - mlen x) (by omega) (by omega), i64_id (n := (x : Int) + 1) (by omega) (by omega)]
      exact ⟨(d - S (x + 1), ((x + 1 : Nat) : Int)), by rw [e]; congr 1; rw [show d - S x - mlen x = d - (S x + mlen x) by omega]; simp, ⟨x + 1, rfl, h⟩, by simp only [Int.toNat_natCast]; omega⟩
    · left
      have : x = m := by omega
      subst this
      have e : S (x + 1) = S x + mlen x := rfl
      rw [if_pos (by simp; omega)]
      exact ⟨_, rfl, rfl⟩)
  rw [h3, h4]

/-! ### the program's calendar -/
/-- The days of twelve months. -/
def y12 (n : Nat) : Int := mlen (12 * n) + mlen (12 * n + 1) + mlen (12 * n + 2) + mlen (12 * n + 3) + mlen (12 * n + 4) + mlen (12 * n + 5) + mlen (12 * n + 6) + mlen (12 * n + 7) + mlen (12 * n + 8) + mlen (12 * n + 9) + mlen (12 * n + 10) + mlen (12 * n + 11)
theorem S_year (n : Nat) : S (12 * (n + 1)) = S (12 * n) + y12 n := by
  rw [show 12 * (n + 1) = 12 * n + 12 by omega]
  simp only [S, y12]
  omega
def chkY : Nat → Nat → Int → Bool
  | 0, _, _ => true
  | k + 1, n, s => (calendar_yearStart (1900 + (n : Int)) == some s) && (calendar_yearLength (1900 + (n : Int)) == some (y12 n)) && chkY k (n + 1) (s + y12 n)
theorem chkY_ok : ∀ (k n : Nat), chkY k n (S (12 * n)) = true → ∀ j, n ≤ j → j < n + k → calendar_yearStart (1900 + (j : Int)) = some (S (12 * j)) ∧ calendar_yearLength (1900 + (j : Int)) = some (y12 j)
  | 0, n, _, j, h1, h2 => by omega
  | k + 1, n, h, j, h1, h2 => by
    simp only [chkY, Bool.and_eq_true, beq_iff_eq] at h
    by_cases hj : j = n
    · subst hj; exact h.1
    · rw [← S_year] at h
      exact chkY_ok k (n + 1) h.2 j (by omega) (by omega)
theorem year_table : chkY 201 0 0 = true := by kernel_rfl
theorem cal_year {n : Nat} (hn : n ≤ 200) : calendar_yearStart (1900 + (n : Int)) = some (S (12 * n)) ∧ calendar_yearLength (1900 + (n : Int)) = some (y12 n) := chkY_ok 201 0 year_table n (Nat.zero_le _) (by omega)
theorem y12_range (n : Nat) : 336 ≤ y12 n ∧ y12 n ≤ 372 := by
  have := S_le (show 12 * n ≤ 12 * (n + 1) by omega)
  have h := S_year n
  have e : ∀ k, mlen k ≤ 31 := fun k => (mlen_range k).2
  have := e (12 * n); have := e (12 * n + 1); have := e (12 * n + 2); have := e (12 * n + 3); have := e (12 * n + 4); have := e (12 * n + 5)
  have := e (12 * n + 6); have := e (12 * n + 7); have := e (12 * n + 8); have := e (12 * n + 9); have := e (12 * n + 10); have := e (12 * n + 11)
  unfold y12 at *
  omega
/-- The last day: 200 years. -/
def sumY : Nat → Int
  | 0 => 0
  | n + 1 => sumY n + y12 n
theorem S_sumY : ∀ n, S (12 * n) = sumY n
  | 0 => rfl
  | n + 1 => by rw [S_year, S_sumY n]; rfl
theorem S_2400 : S 2400 = 73049 := by
  have h := S_sumY 200
  rw [show 12 * 200 = 2400 from rfl] at h
  exact h.trans (by kernel_rfl)
def le366 : Nat → Nat → Int → Bool
  | 0, _, _ => true
  | k + 1, n, s => decide (s ≤ 366 * (n : Int)) && le366 k (n + 1) (s + y12 n)
theorem le366_ok : ∀ (k n : Nat), le366 k n (S (12 * n)) = true → ∀ j, n ≤ j → j < n + k → S (12 * j) ≤ 366 * (j : Int)
  | 0, n, _, j, h1, h2 => by omega
  | k + 1, n, h, j, h1, h2 => by
    simp only [le366, Bool.and_eq_true, decide_eq_true_eq] at h
    by_cases hj : j = n
    · subst hj; exact h.1
    · rw [← S_year] at h
      exact le366_ok k (n + 1) h.2 j (by omega) (by omega)
theorem le366_table : le366 201 0 0 = true := by kernel_rfl
theorem S_366 {n : Nat} (hn : n ≤ 200) : S (12 * n) ≤ 366 * (n : Int) := le366_ok 201 0 le366_table n (Nat.zero_le _) (by omega)
theorem cal_mlen {n k : Nat} (hn : n ≤ 1000) (hk : k < 12) : calendar_monthLength (1900 + (n : Int)) ((k : Int) + 1) = some (mlen (12 * n + k)) := by
  rw [cal_monthLength (by omega) (by omega)]
  unfold mlen
  rw [show (12 * n + k) / 12 = n by omega, show (12 * n + k) % 12 = k by omega]
theorem cal_Day {n k : Nat} (hn : n < 200) (hk : k < 12) : calendar_Day (1900 + (n : Int)) ((k : Int) + 1) 1 = some (S (12 * n + k), true) := by
  unfold calendar_Day
  have hb := S_bound (12 * n)
  have hl := mlen_range (12 * n + k)
  rw [cal_mlen (by omega) hk, (cal_year (n := n) (by omega)).1]
  have e1 : ((((decide (1900 + (n : Int) < 1900) || decide (2099 < 1900 + (n : Int))) || decide ((k : Int) + 1 < 1)) || decide (12 < (k : Int) + 1)) || decide ((1 : Int) < 1)) = false := by
    simp only [Bool.or_eq_false_iff, decide_eq_false_iff_not]; omega
  have e2 : decide (mlen (12 * n + k) < 1) = false := by rw [decide_eq_false_iff_not]; omega
  simp only [e1, Bool.false_eq_true, if_false, Option.bind_some, e2]
  rw [i64_id (n := S (12 * n) + 1) (by omega) (by omega), i64_id (by omega) (by omega)]
  obtain ⟨r, h1, h2⟩ := loopC_FU (f := calendar_Day_l (1900 + (n : Int)) ((k : Int) + 1)) (fun s => ∃ x : Nat, s = (S (12 * n + x), (x : Int) + 1) ∧ x ≤ k) (fun s => k + 1 - s.2.toNat) (fun r => r = (S (12 * n + k), true)) (s := (S (12 * n) + 1 - 1, 1)) ⟨0, by simp, Nat.zero_le _⟩ (by show k + 1 - _ < _; omega) (by
    rintro s rec ⟨x, rfl, hx⟩
    unfold calendar_Day_l
    dsimp only
    by_cases h : x < k
    · right
      have hb := S_bound (12 * n + x)
      have hl := mlen_range (12 * n + x)
      rw [if_pos (by simp; omega), cal_mlen (by omega) (by omega), Option.bind_some, i64_id (n := S (12 * n + x) + mlen (12 * n + x)) (by omega) (by omega), i64_id (n := (x : Int) + 1 + 1) (by omega) (by omega)]
      exact ⟨(S (12 * n + (x + 1)), ((x + 1 : Nat) : Int) + 1), rfl, ⟨x + 1, rfl, h⟩, by simp only []; omega⟩
    · left
      have : x = k := by omega
      subst this
      rw [if_neg (by simp)]
      exact ⟨_, rfl, rfl⟩)
  rw [h1, h2]
theorem cal_MonthStart {m : Nat} (hm : m < 2400) : calendar_MonthStart (m : Int) = some (S m, true) := by
  unfold calendar_MonthStart calendar_validMonth
  have e1 : (decide (0 ≤ (m : Int)) && decide ((m : Int) ≤ 2399)) = true := by rw [Bool.and_eq_true]; exact ⟨decide_eq_true (by omega), decide_eq_true (by omega)⟩
  obtain ⟨h1, h2⟩ := month_parts m (by omega)
  simp only [e1, Option.bind_some, Bool.not_true, Bool.false_eq_true, if_false, h1, h2]
  rw [cal_Day (by omega) (Nat.mod_lt _ (by omega)), Option.bind_some, Nat.div_add_mod]
theorem cal_MonthStart_bad {m : Int} (hm : ¬ (0 ≤ m ∧ m ≤ 2399)) : calendar_MonthStart m = some (0, false) := by
  unfold calendar_MonthStart calendar_validMonth
  have e1 : (decide (0 ≤ m) && decide (m ≤ 2399)) = false := by
    rw [Bool.and_eq_false_iff, decide_eq_false_iff_not, decide_eq_false_iff_not]; omega
  simp only [e1, Option.bind_some, Bool.not_false, if_true]
theorem cal_Date {d : Int} {m : Nat} (hm : m < 2400) (h1 : S m ≤ d) (h2 : d < S (m + 1)) : calendar_Date d = some (1900 + ((m / 12 : Nat) : Int), ((m % 12 : Nat) : Int) + 1, d - S m + 1, true) := by
  have hS := S_mono (show m + 1 ≤ 2400 by omega)
  have h24 := S_2400
  have hb0 := S_bound m
  have hv : (decide (0 ≤ d) && decide (d ≤ 73048)) = true := by rw [Bool.and_eq_true]; exact ⟨decide_eq_true (by omega), decide_eq_true (by omega)⟩
  unfold calendar_Date calendar_Valid
  simp only [hv, Option.bind_some, Bool.not_true, Bool.false_eq_true, if_false]
  rw [tdiv_nonneg (by omega), i64_id (n := d / 366) (by omega) (by omega), i64_id (by omega) (by omega)]
  have hn0 : (d / 366).toNat ≤ 199 := by omega
  have hs0 := S_366 (n := (d / 366).toNat) (by omega)
  obtain ⟨r, h3, h4⟩ := loopC_FU (f := calendar_Date_l d) (fun s => ∃ n : Nat, s = 1900 + (n : Int) ∧ n ≤ 199 ∧ S (12 * n) ≤ d) (fun s => 3000 - s.toNat) (fun r => r = (1900 + ((m / 12 : Nat) : Int), ((m % 12 : Nat) : Int) + 1, d - S m + 1, true)) (s := 1900 + d / 366) ⟨(d / 366).toNat, by omega, hn0, by omega⟩ (by show 3000 - _ < _; omega) (by
    rintro s rec ⟨n, rfl, hn, hsn⟩
    have hb := S_bound (12 * n)
    have hy := y12_range n
    unfold calendar_Date_l
    rw [(cal_year (n := n) (by omega)).1, (cal_year (n := n) (by omega)).2]
    simp only [Option.bind_some]
    rw [i64_id (n := S (12 * n) + y12 n) (by omega) (by omega)]
    by_cases h : S (12 * n) + y12 n ≤ d
    · right
      have hlt : n < 199 := by
        by_cases h9 : n = 199
        · subst h9
          have := S_year 199
          rw [show 12 * (199 + 1) = 2400 from rfl] at this
          omega
        · omega
      rw [if_pos (by simpa using h), i64_id (n := 1900 + (n : Int) + 1) (by omega) (by omega)]
      have e4 : 1900 + (n : Int) + 1 = 1900 + ((n + 1 : Nat) : Int) := by omega
      rw [e4]
      exact ⟨_, rfl, ⟨n + 1, rfl, by omega, by rw [S_year]; exact h⟩, by omega⟩
    · left
      rw [if_neg (by simpa using h), i64_id (n := d - S (12 * n)) (by omega) (by omega)]
      have hnm : m / 12 = n := by
        have h5 : 12 * n ≤ m := by
          rcases Nat.lt_or_ge m (12 * n) with h6 | h6
          · have := S_mono (show m + 1 ≤ 12 * n by omega); omega
          · exact h6
        have h7 : m < 12 * (n + 1) := by
          rcases Nat.lt_or_ge m (12 * (n + 1)) with h6 | h6
          · exact h6
          · have := S_mono h6; rw [S_year] at this; omega
        omega
      refine loopC_FU (f := calendar_Date_l2 (1900 + (n : Int))) (fun s => ∃ x : Nat, s = ((x : Int) + 1, d - S (12 * n + x)) ∧ x ≤ m % 12) (fun s => 13 - s.1.toNat) _ ⟨0, rfl, Nat.zero_le _⟩ (by show 13 - _ < _; omega) ?_
      rintro s rec2 ⟨x, rfl, hx⟩
      unfold calendar_Date_l2
      dsimp only
      have hb2 := S_bound (12 * n + x)
      have hl := mlen_range (12 * n + x)
      rw [cal_mlen (by omega) (by omega)]
      simp only [Option.bind_some]
      have e : S (12 * n + x + 1) = S (12 * n + x) + mlen (12 * n + x) := rfl
      by_cases h8 : x < m % 12
      · right
        have := S_mono (show 12 * n + x + 1 ≤ m by omega)
        rw [if_pos (by simp; omega), i64_id (n := (x : Int) + 1 + 1) (by omega) (by omega), i64_id (n := d - S (12 * n + x) - mlen (12 * n + x)) (by omega) (by omega)]
        have e3 : d - S (12 * n + x) - mlen (12 * n + x) = d - S (12 * n + x + 1) := by rw [e]; omega
        have e4 : (x : Int) + 1 + 1 = ((x + 1 : Nat) : Int) + 1 := by omega
        rw [e3, e4]
        exact ⟨_, rfl, ⟨x + 1, by rw [Nat.add_assoc], h8⟩, by simp only []; omega⟩
      · left
        have hxm : 12 * n + x = m := by omega
        have hx12 : m % 12 = x := by omega
        rw [hxm] at e hl hb2 ⊢
        rw [if_neg (by simp; omega), i64_id (n := d - S m + 1) (by omega) (by omega)]
        exact ⟨_, rfl, by rw [hnm, hx12]⟩)
  rw [h3, h4]
theorem cal_Month {d : Int} {m : Nat} (hm : m < 2400) (h1 : S m ≤ d) (h2 : d < S (m + 1)) : calendar_Month d = some (m : Int) := by
  unfold calendar_Month
  rw [cal_Date hm h1 h2]
  simp only [Option.bind_some, Bool.not_true, Bool.false_eq_true, if_false]
  rw [i64_id (n := 1900 + ((m / 12 : Nat) : Int) - 1900) (by omega) (by omega), i64_id (n := 12 * (1900 + ((m / 12 : Nat) : Int) - 1900)) (by omega) (by omega), i64_id (n := 12 * (1900 + ((m / 12 : Nat) : Int) - 1900) + (((m % 12 : Nat) : Int) + 1)) (by omega) (by omega), i64_id (by omega) (by omega)]
  congr 1; omega
theorem cal_Month_bad {d : Int} (hd : ¬ (0 ≤ d ∧ d ≤ 73048)) : calendar_Month d = some (-1) := by
  unfold calendar_Month calendar_Date calendar_Valid
  have e1 : (decide (0 ≤ d) && decide (d ≤ 73048)) = false := by
    rw [Bool.and_eq_false_iff, decide_eq_false_iff_not, decide_eq_false_iff_not]; omega
  simp only [e1, Option.bind_some, Bool.not_false, if_true]
end Go.PL
