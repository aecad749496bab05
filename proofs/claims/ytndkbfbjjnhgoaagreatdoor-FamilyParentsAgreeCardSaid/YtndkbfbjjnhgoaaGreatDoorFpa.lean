/- Law FamilyParentsAgree. No program in sight. -/
import Derived.Test.YtndkbfbjjnhgoaaGreatDoorRes
set_option linter.unusedVariables false
namespace Go.PL
open Go

theorem Pick_ex (n : List Int) (i : Int) (hn : n.length ≤ 9223372036854775807) : ∃ r, pensionhand_Pick n i = some r := by
  unfold pensionhand_Pick
  by_cases h : n.length = 0
  · rw [if_pos (by simp [h])]; exact ⟨_, rfl⟩
  · rw [if_neg (by simpa using h)]
    have hm : ∃ z, pensionplain_Mod i (n.length : Int) = some z ∧ 0 ≤ z ∧ z < (n.length : Int) := by
      unfold pensionplain_Mod pensionplain_Mod_j
      rw [remI_of (by omega), Option.bind_some]
      have a := Int.tmod_lt_of_pos i (b := (n.length : Int)) (by omega)
      have b := Int.lt_tmod_of_pos i (b := (n.length : Int)) (by omega)
      split
      · rename_i h
        simp only [decide_eq_true_eq] at h
        rw [i64_id (by omega) (by omega)]
        exact ⟨_, rfl, by omega, by omega⟩
      · rename_i h
        simp only [decide_eq_true_eq] at h
        exact ⟨_, rfl, by omega, by omega⟩
    obtain ⟨z, e, z0, z1⟩ := hm
    obtain ⟨x, hx, _⟩ := getI_of z0 z1
    rw [e, Option.bind_some, hx]; exact ⟨_, rfl⟩
def pk (n : List Int) (i : Int) : Int := (pensionhand_Pick n i).getD 0
theorem Pick_eq (n : List Int) (hn : n.length ≤ 9223372036854775807) (i : Int) : pensionhand_Pick n i = some (pk n i) := by
  obtain ⟨r, h⟩ := Pick_ex n i hn
  unfold pk; rw [h]; rfl
theorem Lives_total (n : List Int) (hn : n.length ≤ 9223372036854775807) : ∃ z, pensionhand_Lives n = some z ∧ z.length ≤ 15 := by
  have hP := Pick_eq n hn
  have m3 : ∀ x, pensionplain_Mod x 3 = some (md x 3) := fun x => Mod_md x 3 (by decide)
  have m6 : ∀ x, pensionplain_Mod x 6000 = some (md x 6000) := fun x => Mod_md x 6000 (by decide)
  have m30 : ∀ x, pensionplain_Mod x 3000 = some (md x 3000) := fun x => Mod_md x 3000 (by decide)
  have m9 : ∀ x, pensionplain_Mod x 900000 = some (md x 900000) := fun x => Mod_md x 900000 (by decide)
  have m2 : ∀ x, pensionplain_Mod x 2000 = some (md x 2000) := fun x => Mod_md x 2000 (by decide)
  have m90 : ∀ x, pensionplain_Mod x 900 = some (md x 900) := fun x => Mod_md x 900 (by decide)
  have m12 : ∀ x, pensionplain_Mod x 1200 = some (md x 1200) := fun x => Mod_md x 1200 (by decide)
  have m300 : ∀ x, pensionplain_Mod x 300 = some (md x 300) := fun x => Mod_md x 300 (by decide)
  have app : ∀ (x : List api_Fact) (y : api_Fact), x.length ≤ 20 → appI 112 x [y] = some (x ++ [y]) := fun x y h => appI_of (by simp; omega)
  unfold pensionhand_Lives
  refine loopC_FU (f := pensionhand_Lives_l n) (fun st => ∃ (q : List api_Fact) (k : Nat), st = (q, (k : Int) + 1) ∧ k ≤ 2 ∧ q.length = 6 * k) (fun st => (3 - st.2).toNat) _ ⟨[], 0, rfl, by omega, rfl⟩ (by dsimp only; omega) ?_
  rintro st rec ⟨q, k, rfl, hk, hq⟩
  unfold pensionhand_Lives_l
  dsimp only
  simp only [hP, m3, m6, m30, m9, m2, m90, m12, m300, Option.bind_some]
  by_cases hc : k < 2
  · right
    rw [if_pos (by simp; omega), app _ _ (by omega), Option.bind_some, app _ _ (by simp; omega), Option.bind_some, app _ _ (by simp; omega), Option.bind_some, app _ _ (by simp; omega), Option.bind_some, app _ _ (by simp; omega), Option.bind_some, app _ _ (by simp; omega), Option.bind_some, i64_id (n := (k : Int) + 1 + 1) (by omega) (by omega)]
    refine ⟨_, rfl, ⟨_, k + 1, congrArg (Prod.mk _) ?_, by omega, ?_⟩, by dsimp only; omega⟩
    · simp
    · simp; omega
  · left
    rw [if_neg (by simp; omega), app _ _ (by omega), Option.bind_some, app _ _ (by simp; omega), Option.bind_some, app _ _ (by simp; omega), Option.bind_some]
    exact ⟨_, rfl, by simp; omega⟩
theorem md_range6 (n : Int) : ∃ r, pensionplain_Mod n 6000 = some r ∧ 0 ≤ r ∧ r < 6000 := by
  unfold pensionplain_Mod pensionplain_Mod_j
  rw [remI_of (by omega), Option.bind_some]
  have a := Int.tmod_lt_of_pos n (b := 6000) (by omega)
  have b := Int.lt_tmod_of_pos n (b := 6000) (by omega)
  split
  · rename_i h
    simp only [decide_eq_true_eq] at h
    rw [i64_id (by omega) (by omega)]
    exact ⟨_, rfl, by omega, by omega⟩
  · rename_i h
    simp only [decide_eq_true_eq] at h
    exact ⟨_, rfl, by omega, by omega⟩
theorem FamilyParentsAgree_true (n : List Int) (hn : n.length ≤ 9223372036854775807) (l : List pensionhand_Fact) (child day : Int) : pensionlaw24_FamilyParentsAgree n l child day = some true := by
  obtain ⟨z, h1, l1⟩ := Lives_total n hn
  obtain ⟨z2, h2, l2⟩ := Facts_total l
  obtain ⟨r, hr, r0, r1⟩ := md_range6 day
  have hl : (z ++ z2).length ≤ 2 ^ 20 := by rw [List.length_append]; omega
  have p1 := parF_len (fcs (z ++ z2)) (i64 (1 + md child 5)) (33000 + r)
  have p2 := parF_len (fcs (z ++ z2)) child day
  unfold pensionlaw24_FamilyParentsAgree
  rw [h1, Option.bind_some, h2, Option.bind_some, appI_of (by omega), Option.bind_some, Mod_md child 5 (by decide), Option.bind_some, hr, Option.bind_some, i64_id (n := 33000 + r) (by omega) (by omega), Home_prog _ _ _ hl (by omega) (by omega), Option.bind_some, Home_ref _ _ _ hl, Option.bind_some, awake24_true, Option.bind_some, if_pos rfl,
    Parents_prog _ _ _ hl, Option.bind_some, parents_ref _ _ _ hl, Option.bind_some, Ints_refl _ (by omega), Option.bind_some, Option.bind_some, if_pos rfl, Parents_prog _ _ _ hl, Option.bind_some, parents_ref _ _ _ hl, Option.bind_some, Ints_refl _ (by omega), Option.bind_some, Option.bind_some]
  simp
end Go.PL
