/- DecisionStartAgrees and DecisionValidNeedsEachField are true. Plain Lean. -/
import Derived.Test.YtndkbfbjjnhgoaaGreatDec
set_option linter.unusedSimpArgs false
set_option linter.unusedVariables false
namespace Go.PL
open Go

/-- A claim that the statements are made of: valid, with a small day. -/
def handOK (c : Claim) : Prop := claimOK c ∧ 35150 ≤ c.Day ∧ c.Day ≤ 36049
theorem S_2399 : 73000 ≤ S 2399 := by
  have h := S_2400
  have : S 2400 = S 2399 + mlen 2399 := rfl
  have := mlen_range 2399
  omega
theorem start_ok {c : Claim} (h : 0 ≤ c.Day ∧ c.Day ≤ 72000) : ∃ m, decision_Start c = some (m, true) ∧ 0 ≤ m ∧ m ≤ 2399 := by
  obtain ⟨r, h1, _, h2⟩ := Start_eq c
  have h3 := S_2399
  rcases h2 with ⟨_, h2 | h2⟩ | ⟨m, hm, h2, _⟩
  · omega
  · omega
  · subst h2; exact ⟨_, h1, by omega, by omega⟩
theorem valid_hand {c : Claim} (h : handOK c) : decision_Valid c = some true := by
  obtain ⟨m, h1, _⟩ := start_ok (c := c) (by have := h.2; omega)
  obtain ⟨r, h2, h3⟩ := Valid_dec c
  rw [h1] at h2; cases h2
  rw [h3, decide_eq_true h.1]; rfl
theorem valid_bad {c : Claim} (h : ¬ claimOK c ∨ 73048 < c.Day) : decision_Valid c = some false := by
  obtain ⟨r, h2, h3⟩ := Valid_dec c
  rcases h with h | h
  · rw [h3, decide_eq_false h]; rfl
  · obtain ⟨q, h1, _, h4⟩ := Start_eq c
    rw [h1] at h2; cases h2
    have : r.2 = false := by
      rcases h4 with ⟨h4, _⟩ | ⟨m, _, _, _, h5, _⟩
      · rw [h4]
      · omega
    rw [h3, this, Bool.and_false]
theorem Claims_ok (d : List pensionhand_Claim) (hd : d.length ≤ 9223372036854775807) : ∃ l, pensionhand_Claims d = some l ∧ l.length ≤ 6 ∧ ∀ c ∈ l, handOK c := by
  have h3 : ∀ n, pensionplain_Mod n 3 = some (n % 3) := fun n => Mod_eq (by decide) (by decide)
  have h9 : ∀ n, pensionplain_Mod n 9 = some (n % 9) := fun n => Mod_eq (by decide) (by decide)
  have h4 : ∀ n, pensionplain_Mod n 4 = some (n % 4) := fun n => Mod_eq (by decide) (by decide)
  have h5 : ∀ n, pensionplain_Mod n 5 = some (n % 5) := fun n => Mod_eq (by decide) (by decide)
  have h900 : ∀ n, pensionplain_Mod n 900 = some (n % 900) := fun n => Mod_eq (by decide) (by decide)
  unfold pensionhand_Claims
  refine loopC_FU (fun s => ∃ x : Nat, s.2 = (x : Int) ∧ x ≤ d.length ∧ x ≤ 6 ∧ s.1.length = x ∧ ∀ c ∈ s.1, handOK c) (fun s => 6 - s.2.toNat) _ ⟨0, rfl, Nat.zero_le _, by omega, rfl, by simp⟩ (by show 6 - _ < _; omega) ?_
  rintro ⟨out, i⟩ rec ⟨x, hix, hx, hx6, hlen, hok⟩
  simp only at hix hlen hok
  subst hix
  unfold pensionhand_Claims_l pensionhand_Claims_j
  dsimp only
  by_cases h : x < d.length ∧ x < 6
  · right
    have hc : (decide ((x : Int) < (d.length : Int)) && decide ((x : Int) < 6)) = true := by rw [Bool.and_eq_true]; exact ⟨decide_eq_true (by omega), decide_eq_true (by omega)⟩
    have hg : getI d (x : Int) = some d[x] := by rw [getI_nat]; exact List.getElem?_eq_getElem h.1
    generalize d[x] = y at hg
    simp only [hc, if_true, hg, h3, h9, h4, h5, h900, Option.bind_some]
    rw [i64_id (n := 1 + y.Number % 9) (by omega) (by omega), i64_id (n := 1 + y.Person % 4) (by omega) (by omega), i64_id (n := 1 + y.Benefit % 5) (by omega) (by omega), i64_id (n := 35150 + y.Day % 900) (by omega) (by omega),
      i64_id (n := 1 + y.Ref % 4) (by omega) (by omega), i64_id (n := 1 + (1 + y.Person % 4) % 4) (by omega) (by omega), i64_id (n := (x : Int) + 1) (by omega) (by omega)]
    have hap : ∀ v : Claim, appI 48 out [v] = some (out ++ [v]) := fun v => appI_of (by rw [hlen]; simp only [List.length_cons, List.length_nil]; omega)
    simp only [hap, Option.bind_some]
    have next : ∀ v : Claim, handOK v → ∃ s' : List Claim × Int, rec (out ++ [v], (x : Int) + 1) = rec s' ∧ (∃ x : Nat, s'.2 = (x : Int) ∧ x ≤ d.length ∧ x ≤ 6 ∧ s'.1.length = x ∧ ∀ c ∈ s'.1, handOK c) ∧ 6 - s'.2.toNat < 6 - (x : Int).toNat := by
      intro v hv
      refine ⟨_, rfl, ⟨x + 1, by simp, h.1, h.2, by simp [hlen], fun c hc => ?_⟩, by simp only []; omega⟩
      rcases List.mem_append.1 hc with hc | hc
      · exact hok c hc
      · rw [List.mem_singleton.1 hc]; exact hv
    split
    · rename_i hb
      simp only [Bool.or_eq_true, beq_iff_eq] at hb
      split
      · exact next _ ⟨⟨⟨by simp only []; omega, by simp only []; omega⟩, ⟨by simp only []; omega, by simp only []; omega⟩, ⟨by simp only []; omega, by simp only []; omega⟩, .inl ⟨hb, by simp only []; omega, by simp only []; omega, by simp only []; omega⟩⟩, by simp only []; omega, by simp only []; omega⟩
      · rename_i hr
        simp only [beq_iff_eq] at hr
        exact next _ ⟨⟨⟨by simp only []; omega, by simp only []; omega⟩, ⟨by simp only []; omega, by simp only []; omega⟩, ⟨by simp only []; omega, by simp only []; omega⟩, .inl ⟨hb, by simp only []; omega, by simp only []; omega, hr⟩⟩, by simp only []; omega, by simp only []; omega⟩
    · rename_i hb
      simp only [Bool.or_eq_true, beq_iff_eq, not_or] at hb
      exact next _ ⟨⟨⟨by simp only []; omega, by simp only []; omega⟩, ⟨by simp only []; omega, by simp only []; omega⟩, ⟨by simp only []; omega, by simp only []; omega⟩, .inr ⟨by simp only []; omega, rfl⟩⟩, by simp only []; omega, by simp only []; omega⟩
  · left
    have hc : (decide ((x : Int) < (d.length : Int)) && decide ((x : Int) < 6)) = false := by
      rw [Bool.and_eq_false_iff, decide_eq_false_iff_not, decide_eq_false_iff_not]; omega
    simp only [hc, Bool.false_eq_true, if_false]
    exact ⟨_, rfl, by omega, hok⟩
theorem All_ok (n : Int) : ∃ l, pensionhand_All n = some l ∧ l.length = 6 ∧ ∀ c ∈ l, handOK c := by
  unfold pensionhand_All
  rw [Mod_eq (by decide) (by decide), Option.bind_some]
  have h : 0 ≤ n % 400 ∧ n % 400 < 400 := by omega
  generalize n % 400 = z at h
  rw [i64_id (n := 35150 + z) (by omega) (by omega)]
  refine ⟨_, rfl, rfl, fun c hc => ?_⟩
  simp only [List.mem_cons, List.not_mem_nil, or_false] at hc
  rcases hc with rfl | rfl | rfl | rfl | rfl | rfl <;> exact ⟨by unfold claimOK; simp, by simp only []; omega, by simp only []; omega⟩
end Go.PL
