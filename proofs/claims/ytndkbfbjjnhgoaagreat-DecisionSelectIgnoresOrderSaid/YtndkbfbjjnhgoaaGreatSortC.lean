/- The sorting of a short list, as the library does it: insertion. Plain Lean. -/
import Derived.Test.YtndkbfbjjnhgoaaGreatF
import Derived.Test.YtndkbfbjjnhgoaaGreatPure
set_option linter.unusedSimpArgs false
set_option linter.unusedVariables false
namespace Go.PL
open Go

theorem swap_list {A T : List Claim} {x y : Claim} : setI (setI (A ++ y :: x :: T) ((A.length : Int) + 1) y) (A.length : Int) x = A ++ x :: y :: T := by
  have e1 : ((A.length : Int) + 1).toNat = A.length + 1 := by omega
  unfold setI
  rw [if_pos (by omega), if_pos (by omega), e1, Int.toNat_natCast]
  rw [List.set_append_right _ _ (by omega), List.set_append_right _ _ (by omega)]
  simp
theorem get_mid {A T : List Claim} {x : Claim} : getI (A ++ x :: T) (A.length : Int) = some x := by
  rw [getI_nat]; simp
section
variable {c : Claim → Claim → Int} {cmp : Claim × Claim → Option Int} {S : Claim → Prop}
/-- What the order has to be like for the sorting to sort: c x y < 0 says that x comes ahead of y. -/
structure Ordered (c : Claim → Claim → Int) (S : Claim → Prop) : Prop where
  asymm : ∀ x y, S x → S y → c x y < 0 → ¬ c y x < 0
  trans : ∀ x y z, S x → S y → S z → ¬ c y x < 0 → ¬ c z y < 0 → ¬ c z x < 0
def Le (c : Claim → Claim → Int) (x y : Claim) : Prop := ¬ c y x < 0

theorem insertion_inner (hO : Ordered c S) (hc : ∀ x y, S x → S y → cmp (x, y) = some (c x y)) (orig : List Claim) (hS : ∀ x ∈ orig, S x) (hlen : orig.length ≤ 1000) (i : Nat) (rec : Int × List Claim → Option (List Claim))
    (A : List Claim) (x : Claim) (C : List Claim) (hi : A.length = i) (hp : (A ++ x :: C).Perm orig) (hs : A.Pairwise (Le c)) :
    ∃ A' : List Claim, A'.length = i + 1 ∧ (A' ++ C).Perm orig ∧ A'.Pairwise (Le c) ∧
      loopC FU (slices_insertionSortCmpFunc_of_api_Claim_l2 0 cmp (i : Int) rec) ((i : Int), A ++ x :: C) = rec (((i + 1 : Nat) : Int), A' ++ C) := by
  have hil : i < 1000 := by have := hp.length_eq; simp at this; omega
  refine loopC_innerFU (fun s => ∃ (A1 B : List Claim), s = ((A1.length : Int), A1 ++ x :: (B ++ C)) ∧ A1.length + B.length = i ∧ (A1 ++ x :: (B ++ C)).Perm orig ∧ (A1 ++ B).Pairwise (Le c) ∧ ∀ b ∈ B, Le c x b) (fun s => s.1.toNat)
    (fun o => ∃ A' : List Claim, A'.length = i + 1 ∧ (A' ++ C).Perm orig ∧ A'.Pairwise (Le c) ∧ o = rec (((i + 1 : Nat) : Int), A' ++ C)) ⟨A, [], by simp [hi], by simpa using hi, by simpa using hp, by simpa using hs, by simp⟩ (by show ((i : Int)).toNat < _; omega) ?_
  rintro s rec2 ⟨A1, B, rfl, hl, hp1, hs1, hb⟩
  have hmem : ∀ y ∈ A1 ++ x :: (B ++ C), S y := fun y hy => hS y (hp1.subset hy)
  have hSx : S x := hmem x (by simp)
  have stop : ∀ o : Option (List Claim), o = rec (i64 ((i : Int) + 1), A1 ++ x :: (B ++ C)) → (∀ a ∈ A1, Le c a x) →
      ∃ A' : List Claim, A'.length = i + 1 ∧ (A' ++ C).Perm orig ∧ A'.Pairwise (Le c) ∧ o = rec (((i + 1 : Nat) : Int), A' ++ C) := by
    intro o ho ha
    refine ⟨A1 ++ x :: B, by simp; omega, by simpa using hp1, ?_, ?_⟩
    · rw [List.pairwise_append] at hs1 ⊢
      refine ⟨hs1.1, List.pairwise_cons.2 ⟨hb, hs1.2.1⟩, fun a h1 b h2 => ?_⟩
      rcases List.mem_cons.1 h2 with h2 | h2
      · rw [h2]; exact ha a h1
      · exact hs1.2.2 a h1 b h2
    · rw [ho, i64_id (by omega) (by omega)]; simp
  unfold slices_insertionSortCmpFunc_of_api_Claim_l2
  rcases List.eq_nil_or_concat A1 with h0 | ⟨A2, y, h0⟩
  · subst h0
    left
    have : decide ((0 : Int) < (([] : List Claim).length : Int)) = false := by simp
    simp only [this, Bool.false_eq_true, if_false, Option.bind_some]
    exact stop _ rfl (by simp)
  · have h0 : A1 = A2 ++ [y] := by simpa using h0
    subst h0
    have e0 : (((A2 ++ [y]).length : Nat) : Int) = (A2.length : Int) + 1 := by simp
    have hd : decide ((0 : Int) < (((A2 ++ [y]).length : Nat) : Int)) = true := by rw [e0, decide_eq_true_eq]; omega
    have hA2 : A2.length < 1000 := by simp at hl; omega
    have e1 : i64 ((((A2 ++ [y]).length : Nat) : Int) - 1) = (A2.length : Int) := by rw [e0, i64_id (by omega) (by omega)]; omega
    have g1 : getI (A2 ++ [y] ++ x :: (B ++ C)) (((A2 ++ [y]).length : Nat) : Int) = some x := get_mid
    have g2 : getI (A2 ++ [y] ++ x :: (B ++ C)) (A2.length : Int) = some y := by
      have : A2 ++ [y] ++ x :: (B ++ C) = A2 ++ y :: (x :: (B ++ C)) := by simp
      rw [this]; exact get_mid
    have hSy : S y := hmem y (by simp)
    simp only [hd, if_true, g1, e1, g2, hc x y hSx hSy, Option.bind_some]
    by_cases hlt : c x y < 0
    · right
      simp only [hlt, decide_true, if_true]
      refine ⟨_, rfl, ⟨A2, y :: B, ?_, by simp at hl ⊢; omega, ?_, by simpa using hs1, ?_⟩, by simp only [e0, Int.toNat_natCast]; omega⟩
      · have : A2 ++ [y] ++ x :: (B ++ C) = A2 ++ y :: x :: (B ++ C) := by simp
        rw [this, e0, swap_list]; simp
      · refine List.Perm.trans ?_ hp1
        have : A2 ++ [y] ++ x :: (B ++ C) = A2 ++ y :: x :: (B ++ C) := by simp
        rw [this]
        exact List.Perm.append_left A2 (List.Perm.swap y x (B ++ C))
      · intro b hbm
        rcases List.mem_cons.1 hbm with hbm | hbm
        · rw [hbm]; exact hO.asymm x y hSx hSy hlt
        · exact hb b hbm
    · left
      simp only [hlt, decide_false, Bool.false_eq_true, if_false]
      refine stop _ rfl (fun a ha => ?_)
      rw [List.mem_append, List.mem_singleton] at ha
      rcases ha with ha | ha
      · have hay : Le c a y := by
          rw [List.append_assoc, List.pairwise_append] at hs1
          exact hs1.2.2 a ha y (by simp)
        exact hO.trans a y x (hmem a (by simp [ha])) hSy hSx hay hlt
      · rw [ha]; exact hlt
theorem insertion_eq (hO : Ordered c S) (hc : ∀ x y, S x → S y → cmp (x, y) = some (c x y)) (orig : List Claim) (hS : ∀ x ∈ orig, S x) (hlen : orig.length ≤ 1000) :
    ∃ r, slices_insertionSortCmpFunc_of_api_Claim orig 0 (orig.length : Int) cmp = some r ∧ r.Perm orig ∧ r.Pairwise (Le c) := by
  unfold slices_insertionSortCmpFunc_of_api_Claim
  by_cases hne : orig = []
  · subst hne
    refine ⟨[], ?_, List.Perm.refl _, List.Pairwise.nil⟩
    have : ∀ k, 0 < k → loopC k (slices_insertionSortCmpFunc_of_api_Claim_l 0 (([] : List Claim).length : Int) cmp) (i64 (0 + 1), []) = some [] := by
      intro k hk
      cases k with
      | zero => exact absurd hk (Nat.lt_irrefl 0)
      | succ k => show slices_insertionSortCmpFunc_of_api_Claim_l _ _ _ _ _ = _; unfold slices_insertionSortCmpFunc_of_api_Claim_l; dsimp only; rw [if_neg (by rw [i64_id (by omega) (by omega)]; simp)]
    exact this FU (by unfold FU; omega)
  have hpos : 0 < orig.length := List.length_pos_iff.2 hne
  have e1 : i64 (0 + 1) = ((1 : Nat) : Int) := by rw [i64_id (by omega) (by omega)]; rfl
  rw [e1]
  refine loopC_FU (fun s => ∃ (A C : List Claim), s = ((A.length : Int), A ++ C) ∧ 1 ≤ A.length ∧ (A ++ C).Perm orig ∧ A.Pairwise (Le c)) (fun s => orig.length - s.1.toNat) _ ?_ (by show orig.length - _ < _; omega) ?_
  · cases orig with
    | nil => exact absurd rfl hne
    | cons x r => exact ⟨[x], r, rfl, by simp, List.Perm.refl _, List.pairwise_singleton _ _⟩
  · rintro s rec ⟨A, C, rfl, hA, hp, hs⟩
    unfold slices_insertionSortCmpFunc_of_api_Claim_l
    dsimp only
    have hle := hp.length_eq
    rw [List.length_append] at hle
    cases C with
    | nil =>
      left
      rw [if_neg (by simp at hle ⊢; omega)]
      exact ⟨A ++ [], rfl, hp, by simpa using hs⟩
    | cons x C =>
      right
      rw [List.length_cons] at hle
      rw [if_pos (by simp; omega)]
      obtain ⟨A', h1, h2, h3, h4⟩ := insertion_inner hO hc orig hS hlen A.length rec A x C rfl hp hs
      refine ⟨_, h4, ⟨A', C, by rw [h1], by omega, h2, h3⟩, by simp only [Int.toNat_natCast]; omega⟩
end
end Go.PL
