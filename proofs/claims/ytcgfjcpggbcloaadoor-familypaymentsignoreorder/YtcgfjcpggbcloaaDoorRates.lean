/- The tables of rates that the statements are about: each is in order. Plain Lean. -/
import Derived.Test.YtcgfjcpggbcloaaDoorList
set_option linter.unusedSimpArgs false
set_option linter.unusedVariables false
namespace Go.PL
open Go

theorem fraction_ok (num den : Nat) (hn : 1 ≤ num ∧ num ≤ 100000) (hd : 1 ≤ den ∧ den ≤ 100000) : ∃ f, pensionplain_fraction (num : Int) (den : Int) = some f ∧ fracOK f ∧ (1 ≤ f.Num ∧ f.Num ≤ (num : Int)) ∧ (1 ≤ f.Den ∧ f.Den ≤ (den : Int)) := by
  unfold pensionplain_fraction
  have hg : 0 < Nat.gcd num den := Nat.gcd_pos_of_pos_left _ (by omega)
  refine loopC_FU (fun s => ∃ x y : Nat, s = ((x : Int), (y : Int)) ∧ Nat.gcd x y = Nat.gcd num den ∧ y ≤ den) (fun s => s.2.toNat) _ ⟨num, den, rfl, rfl, Nat.le_refl _⟩ (by simp; omega) ?_
  rintro s rec ⟨x, y, rfl, hxy, hy⟩
  unfold pensionplain_fraction_l
  dsimp only
  by_cases h0 : y = 0
  · left
    subst h0
    have hx : x = Nat.gcd num den := by rw [← hxy]; simp
    have hx0 : (x : Int) ≠ 0 := by omega
    rw [if_neg (by simp), quoI_of hx0, quoI_of hx0]
    simp only [Option.bind_some]
    have e1 : (num : Int).tdiv (x : Int) = ((num / x : Nat) : Int) := by rw [tdiv_nonneg (Int.natCast_nonneg _)]; rfl
    have e2 : (den : Int).tdiv (x : Int) = ((den / x : Nat) : Int) := by rw [tdiv_nonneg (Int.natCast_nonneg _)]; rfl
    have d1 : x ∣ num := by rw [hx]; exact Nat.gcd_dvd_left _ _
    have d2 : x ∣ den := by rw [hx]; exact Nat.gcd_dvd_right _ _
    have p1 : 1 ≤ num / x := Nat.div_pos (Nat.le_of_dvd (by omega) d1) (by omega)
    have p2 : 1 ≤ den / x := Nat.div_pos (Nat.le_of_dvd (by omega) d2) (by omega)
    have q1 : num / x ≤ num := Nat.div_le_self _ _
    have q2 : den / x ≤ den := Nat.div_le_self _ _
    rw [e1, e2, i64_id (by omega) (by omega), i64_id (by omega) (by omega)]
    have hc : Nat.gcd (num / x) (den / x) = 1 := by
      rw [Nat.gcd_div d1 d2, ← hx]; exact Nat.div_self (by omega)
    refine ⟨_, rfl, ⟨?_, ?_, ?_, ?_, ?_⟩, ⟨?_, ?_⟩, ⟨?_, ?_⟩⟩ <;> simp only [Int.natAbs_natCast] <;> first | exact hc | omega
  · right
    obtain ⟨e1, e2⟩ := gcd_step (a := x) h0
    refine ⟨((y : Int), ((x % y : Nat) : Int)), ?_, ⟨y, x % y, rfl, ?_, ?_⟩, ?_⟩
    · simp only [e1, if_true, e2, Option.bind_some]
    · rw [← hxy, Nat.gcd_comm x y, Nat.gcd_rec y x, Nat.gcd_comm]
    · exact Nat.le_trans (Nat.le_of_lt (Nat.mod_lt _ (by omega))) hy
    · have := Nat.mod_lt x (Nat.pos_of_ne_zero h0); simp only [Int.toNat_natCast]; exact this
theorem ratesOK.append {t : List Rate} {y : Rate} (h : ratesOK t) (hl : t.length < 40) (hy : rateOK y) (hlt : ∀ z ∈ t, rateLt z y) : ratesOK (t ++ [y]) := by
  refine ⟨by simp; omega, fun x hx => ?_⟩
  by_cases hxt : x < t.length
  · obtain ⟨z, hz, h1, h2⟩ := h.2 x hxt
    exact ⟨z, by rw [List.getElem?_append_left hxt]; exact hz, h1, fun y' h0 hy' => h2 y' h0 (by rwa [List.getElem?_append_left (by omega)] at hy')⟩
  · have : x = t.length := by simp at hx; omega
    subst this
    refine ⟨y, by simp, hy, fun y' h0 hy' => ?_⟩
    rw [List.getElem?_append_left (by omega)] at hy'
    exact hlt y' (List.mem_of_getElem? hy')
/-- A fraction of numbers written as integers. -/
theorem fraction_int {a b : Int} (ha : 1 ≤ a ∧ a ≤ 100000) (hb : 1 ≤ b ∧ b ≤ 100000) : ∃ f, pensionplain_fraction a b = some f ∧ fracOK f ∧ (1 ≤ f.Num ∧ f.Num ≤ a) ∧ (1 ≤ f.Den ∧ f.Den ≤ b) := by
  have e1 : a = ((a.toNat : Nat) : Int) := by omega
  have e2 : b = ((b.toNat : Nat) : Int) := by omega
  rw [e1, e2]
  exact fraction_ok a.toNat b.toNat (by omega) (by omega)
theorem Rates_ok (l : List Int) (hl : l.length ≤ 9223372036854775807) : ∃ t, pensionplain_Rates l = some t ∧ ratesOK t := by
  have h7 : ∀ n, pensionplain_Mod n 7 = some (n % 7) := fun n => Mod_eq (by decide) (by decide)
  have h40 : ∀ n, pensionplain_Mod n 40 = some (n % 40) := fun n => Mod_eq (by decide) (by decide)
  have h9 : ∀ n, pensionplain_Mod n 9 = some (n % 9) := fun n => Mod_eq (by decide) (by decide)
  have h2k : ∀ n, pensionplain_Mod n 2000 = some (n % 2000) := fun n => Mod_eq (by decide) (by decide)
  have h90 : ∀ n, pensionplain_Mod n 90 = some (n % 90) := fun n => Mod_eq (by decide) (by decide)
  have h30 : ∀ n, pensionplain_Mod n 30 = some (n % 30) := fun n => Mod_eq (by decide) (by decide)
  unfold pensionplain_Rates
  refine loopC_FU (fun s => ∃ x : Nat, s.2 = (x : Int) ∧ 1 ≤ x ∧ x ≤ 4 ∧ ratesOK s.1 ∧ s.1.length ≤ 2 * (x - 1) ∧ ∀ z ∈ s.1, z.Currency < (x : Int)) (fun s => 4 - s.2.toNat) _ ⟨1, rfl, by omega, by omega, ⟨by simp, fun _ h => absurd h (Nat.not_lt_zero _)⟩, by simp, by simp⟩ (by show 4 - _ < _; omega) ?_
  rintro ⟨out, c⟩ rec ⟨x, hcx, hx1, hx4, hok, hlen, hcur⟩
  simp only at hcx hok hlen hcur
  subst hcx
  unfold pensionplain_Rates_l pensionplain_Rates_j pensionplain_Rates_j2
  dsimp only
  have e1 : i64 ((x : Int) - 1) = ((x - 1 : Nat) : Int) := by rw [i64_id (by omega) (by omega)]; omega
  have e2 : i64 ((x : Int) + 1) = ((x + 1 : Nat) : Int) := by rw [i64_id (by omega) (by omega)]; omega
  by_cases h3 : x ≤ 3
  · rw [if_pos (by rw [decide_eq_true_eq]; omega), e1, e2]
    by_cases hend : l.length ≤ x - 1
    · left
      rw [if_pos (by rw [decide_eq_true_eq]; omega)]
      exact ⟨out, rfl, hok⟩
    · right
      rw [if_neg (by rw [decide_eq_true_eq]; omega)]
      have hlt : x - 1 < l.length := by omega
      have hg : getI l ((x - 1 : Nat) : Int) = some l[x - 1] := by rw [getI_nat]; exact List.getElem?_eq_getElem hlt
      rw [hg, Option.bind_some]
      generalize l[x - 1] = y
      simp only [h7, h40, h9, h2k, h90, h30, Option.bind_some]
      generalize i64 (Int.tdiv y 7) = a1
      generalize i64 (Int.tdiv y 300) = a2
      generalize i64 (Int.tdiv y 5000) = a3
      generalize i64 (Int.tdiv y 11) = a4
      generalize i64 (Int.tdiv y 13) = a5
      rw [i64_id (n := 1 + a1 % 40) (by omega) (by omega), i64_id (n := 1 + a2 % 9) (by omega) (by omega), i64_id (n := 1 + a3 % 2000) (by omega) (by omega), i64_id (n := 1 + a4 % 90) (by omega) (by omega), i64_id (n := 1 + a5 % 30) (by omega) (by omega)]
      split
      · exact ⟨(out, ((x + 1 : Nat) : Int)), rfl, ⟨x + 1, rfl, by omega, by omega, hok, by simp only []; omega, fun z hz => by have := hcur z hz; omega⟩, by simp only [Int.toNat_natCast]; omega⟩
      · obtain ⟨f, hf, f1, f2, f3⟩ := fraction_int (a := 1 + a1 % 40) (b := 1 + a2 % 9) (by omega) (by omega)
        rw [hf, Option.bind_some, appI_of (by simp only [List.length_cons, List.length_nil]; omega), Option.bind_some]
        have hok1 : ratesOK (out ++ [(⟨(x : Int), 0, f⟩ : Rate)]) := hok.append (by omega) ⟨⟨by simp only []; omega, by simp only []; omega⟩, ⟨by simp only []; omega, by simp only []; omega⟩, f1, ⟨f2.1, by simp only []; omega⟩, f3.1, by simp only []; omega⟩ (fun z hz => .inl (hcur z hz))
        split
        · obtain ⟨g, hg, g1, g2, g3⟩ := fraction_int (a := 1 + a4 % 90) (b := 1 + a5 % 30) (by omega) (by omega)
          rw [hg, Option.bind_some, appI_of (by simp only [List.length_append, List.length_cons, List.length_nil]; omega), Option.bind_some]
          refine ⟨(_, ((x + 1 : Nat) : Int)), rfl, ⟨x + 1, rfl, by omega, by omega, hok1.append (by simp; omega) ⟨⟨by simp only []; omega, by simp only []; omega⟩, ⟨by simp only []; omega, by simp only []; omega⟩, g1, ⟨g2.1, by simp only []; omega⟩, g3.1, by simp only []; omega⟩ (fun z hz => ?_), by simp; omega, fun z hz => ?_⟩, by simp only [Int.toNat_natCast]; omega⟩
          · rcases List.mem_append.1 hz with hz | hz
            · exact .inl (hcur z hz)
            · rw [List.mem_singleton.1 hz]; exact .inr ⟨rfl, by simp only []; omega⟩
          · simp only [List.mem_append, List.mem_singleton] at hz
            rcases hz with (hz | hz) | hz
            · have := hcur z hz; omega
            · rw [hz]; simp only []; omega
            · rw [hz]; simp only []; omega
        · refine ⟨(_, ((x + 1 : Nat) : Int)), rfl, ⟨x + 1, rfl, by omega, by omega, hok1, by simp; omega, fun z hz => ?_⟩, by simp only [Int.toNat_natCast]; omega⟩
          rcases List.mem_append.1 hz with hz | hz
          · have := hcur z hz; omega
          · rw [List.mem_singleton.1 hz]; simp only []; omega
  · left
    rw [if_neg (by rw [decide_eq_true_eq]; omega)]
    exact ⟨out, rfl, hok⟩
end Go.PL
