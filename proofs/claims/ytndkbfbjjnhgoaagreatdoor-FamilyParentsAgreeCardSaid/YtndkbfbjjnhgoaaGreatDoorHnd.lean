/- The facts that pensionhand makes: they are always made. No program in sight. -/
import Derived.Test.YtndkbfbjjnhgoaaGreatDoorVal
set_option linter.unusedVariables false
namespace Go.PL
open Go

def md (n m : Int) : Int := (pensionplain_Mod n m).getD 0
theorem Mod_md (n m : Int) (h : m ≠ 0) : pensionplain_Mod n m = some (md n m) := by
  have : ∃ r, pensionplain_Mod n m = some r := by
    unfold pensionplain_Mod pensionplain_Mod_j
    rw [remI_of h, Option.bind_some]
    split <;> exact ⟨_, rfl⟩
  obtain ⟨r, e⟩ := this
  unfold md; rw [e]; rfl
theorem Mod_ex (n m : Int) (h : m ≠ 0) : ∃ r, pensionplain_Mod n m = some r := ⟨_, Mod_md n m h⟩

theorem Uses_small (k : Int) : ∃ s, pensionref12_Uses k = some s ∧ s.size ≤ 10 := by
  by_cases h : 1 ≤ k ∧ k ≤ 14
  · have : k = 1 ∨ k = 2 ∨ k = 3 ∨ k = 4 ∨ k = 5 ∨ k = 6 ∨ k = 7 ∨ k = 8 ∨ k = 9 ∨ k = 10 ∨ k = 11 ∨ k = 12 ∨ k = 13 ∨ k = 14 := by omega
    rcases this with rfl | rfl | rfl | rfl | rfl | rfl | rfl | rfl | rfl | rfl | rfl | rfl | rfl | rfl
    exact ⟨str2, by kernel_rfl, by decide⟩
    exact ⟨str3, by kernel_rfl, by decide⟩
    exact ⟨str3, by kernel_rfl, by decide⟩
    exact ⟨str4, by kernel_rfl, by decide⟩
    exact ⟨str5, by kernel_rfl, by decide⟩
    exact ⟨str6, by kernel_rfl, by decide⟩
    exact ⟨str5, by kernel_rfl, by decide⟩
    exact ⟨str5, by kernel_rfl, by decide⟩
    exact ⟨str5, by kernel_rfl, by decide⟩
    exact ⟨str7, by kernel_rfl, by decide⟩
    exact ⟨str8, by kernel_rfl, by decide⟩
    exact ⟨str8, by kernel_rfl, by decide⟩
    exact ⟨str8, by kernel_rfl, by decide⟩
    exact ⟨str9, by kernel_rfl, by decide⟩
  · exact ⟨str1, (uses_out (by omega)).2, by decide⟩
theorem strI_ex {s : ByteArray} {k : Nat} (h : k < s.size) : ∃ x, strI s (k : Int) = some x := by
  unfold strI
  rw [if_pos (Int.natCast_nonneg _), Int.toNat_natCast, getElem?_pos s k h]
  exact ⟨_, rfl⟩
set_option maxHeartbeats 1000000 in
theorem hMake_total (d : pensionhand_Fact) : ∃ r, pensionhand_Make d = some r := by
  have tail : ∀ z z2 z3 z4 z5 x x2, ∃ r, pensionhand_Make_j d z z2 z3 z4 z5 x x2 = some r := by
    intro z z2 z3 z4 z5 x x2
    unfold pensionhand_Make_j
    dsimp only
    obtain ⟨s, e, hs⟩ := Uses_small (i64 (1 + z5))
    rw [e, Option.bind_some]
    have := loopC_FU (f := pensionhand_Make_l d x x2 s) (fun st => ∃ (k : Nat) (v : api_Fact), st = ((k : Int), v) ∧ k ≤ s.size) (fun st => s.size - st.1.toNat) (fun _ => True) (s := (0, ({ ({ (⟨z, i64 (1 + z2), i64 (1 + z3), d.Withdrawn, 0, 0, 0, (⟨0, 0⟩ : Span), 0, 0, 0, 0, 0⟩ : api_Fact) with Person := i64 (1 + z4) } : api_Fact) with Kind := i64 (1 + z5) } : api_Fact)))
      ⟨0, _, rfl, Nat.zero_le _⟩ (by dsimp only; omega) ?_
    · obtain ⟨r, h, _⟩ := this; exact ⟨r, h⟩
    · rintro st rec ⟨k, v, rfl, hk⟩
      unfold pensionhand_Make_l
      dsimp only
      by_cases hc : k < s.size
      · right
        rw [if_pos (by simp; omega)]
        obtain ⟨c, hc'⟩ := strI_ex hc
        rw [hc', Option.bind_some]
        have nx : ∀ v, ∃ s', pensionhand_Make_j2 (k : Int) rec v = rec s' ∧ (∃ (k : Nat) (v : api_Fact), s' = ((k : Int), v) ∧ k ≤ s.size) ∧ s.size - s'.1.toNat < s.size - (k : Int).toNat := by
          intro v
          unfold pensionhand_Make_j2
          rw [idx_succ (by omega)]
          exact ⟨_, rfl, ⟨k + 1, v, rfl, by omega⟩, by simp only [Int.toNat_natCast]; omega⟩
        rw [Mod_md d.State 3 (by decide), Mod_md d.Seat 3 (by decide), Mod_md d.Share 100 (by decide), Mod_md _ 3 (by decide), Mod_md d.Amount 3000000 (by decide), Mod_md d.Ref 4 (by decide)]
        simp only [Option.bind_some]
        rw [Mod_md _ 3 (by decide), Mod_md _ 4 (by decide)]
        simp only [Option.bind_some]
        repeat' (first | exact nx _ | split)
      · left
        rw [if_neg (by simp; omega)]
        exact ⟨v, rfl, trivial⟩
  have hl : ∃ r, pensionhand_length d.Length = some r := by
    unfold pensionhand_length
    rw [Mod_md _ 4 (by decide), Option.bind_some, Mod_md _ 9000 (by decide), Mod_md _ 1200 (by decide), Mod_md _ 120 (by decide), Mod_md _ 12 (by decide)]
    simp only [Option.bind_some]
    repeat' (first | exact ⟨_, rfl⟩ | split)
  obtain ⟨len, hl⟩ := hl
  unfold pensionhand_Make
  rw [hl]
  rw [Mod_md _ 3 (by decide), Mod_md _ 20 (by decide), Mod_md _ 3 (by decide), Mod_md _ 4 (by decide), Mod_md _ 14 (by decide), Mod_md _ 16000 (by decide), Mod_md _ 5000 (by decide), Mod_md _ 6000 (by decide), Mod_md _ 4000 (by decide), Mod_md _ 700 (by decide)]
  simp only [Option.bind_some]
  repeat' (first | exact tail _ _ _ _ _ _ _ | split)
theorem Facts_total (l : List pensionhand_Fact) : ∃ z, pensionhand_Facts l = some z ∧ z.length ≤ 12 := by
  unfold pensionhand_Facts
  refine loopC_FU (f := pensionhand_Facts_l l) (fun st => ∃ (q : List api_Fact) (k : Nat), st = (q, (k : Int)) ∧ k ≤ 12 ∧ q.length = k) (fun st => 12 - st.2.toNat) _ ⟨[], 0, rfl, Nat.zero_le _, rfl⟩ (by dsimp only; omega) ?_
  rintro st rec ⟨q, k, rfl, hk, hq⟩
  unfold pensionhand_Facts_l
  dsimp only
  by_cases hc : (k : Int) < (l.length : Int) ∧ (k : Int) < 12
  · right
    obtain ⟨y, hy⟩ : ∃ y, l[k]? = some y := ⟨_, List.getElem?_eq_getElem (by omega)⟩
    obtain ⟨r, hr⟩ := hMake_total y
    rw [if_pos (by simp; omega), getI_ix hy, Option.bind_some, hr, Option.bind_some, appI_of (by simp; omega), Option.bind_some, idx_succ (by omega)]
    exact ⟨_, rfl, ⟨_, k + 1, rfl, by omega, by simp; omega⟩, by simp only [Int.toNat_natCast]; omega⟩
  · left
    rw [if_neg (by simp; omega)]
    exact ⟨q, rfl, by omega⟩
end Go.PL
