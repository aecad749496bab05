/- Lists of rights: the program's check and the reference's. Plain Lean. -/
import Derived.Test.YtcgfjcpggbcloaaDoorNum
set_option linter.unusedSimpArgs false
set_option linter.unusedVariables false
namespace Go.PL
open Go

theorem IndexFunc_eq (s : List Right) (p : Right → Bool) (hl : s.length ≤ 1000000) : ∃ r, slices_IndexFunc_of_api_Right s (fun o => some (p o)) = some r ∧ (0 ≤ r ∧ s.any p = true ∨ r = -1 ∧ s.any p = false) := by
  unfold slices_IndexFunc_of_api_Right
  refine loopC_FU (fun i => ∃ x : Nat, i = (x : Int) ∧ x ≤ s.length ∧ ∀ k o, k < x → s[k]? = some o → p o = false) (fun i => s.length - i.toNat) _ ⟨0, rfl, Nat.zero_le _, fun _ _ h => absurd h (Nat.not_lt_zero _)⟩ (by show s.length - _ < _; omega) ?_
  rintro i rec ⟨x, rfl, hx, hall⟩
  unfold slices_IndexFunc_of_api_Right_l
  by_cases h : x < s.length
  · have hy : s[x]? = some s[x] := List.getElem?_eq_getElem h
    have hgx : getI s (x : Int) = some s[x] := by rw [getI_nat]; exact hy
    rw [if_pos (by simp; omega), hgx]
    simp only [Option.bind_some]
    by_cases hp : p s[x] = true
    · left
      rw [if_pos hp]
      exact ⟨_, rfl, .inl ⟨Int.natCast_nonneg x, List.any_eq_true.2 ⟨s[x], List.getElem_mem h, hp⟩⟩⟩
    · right
      rw [if_neg hp, i64_id (by omega) (by omega)]
      refine ⟨_, rfl, ⟨x + 1, by simp, h, fun k o hk ho => ?_⟩, by omega⟩
      by_cases hkx : k = x
      · subst hkx; rw [hy] at ho; cases ho; simpa using hp
      · exact hall k o (by omega) ho
  · left
    rw [if_neg (by simp; omega)]
    refine ⟨_, rfl, .inr ⟨rfl, ?_⟩⟩
    rw [List.any_eq_false]
    intro o ho
    obtain ⟨k, hk, hko⟩ := List.mem_iff_getElem.1 ho
    have := hall k o (by omega) (by rw [List.getElem?_eq_getElem hk, hko])
    simp [this]
theorem ContainsFunc_eq (s : List Right) (p : Right → Bool) (hl : s.length ≤ 1000000) : slices_ContainsFunc_of_api_Right s (fun o => some (p o)) = some (s.any p) := by
  unfold slices_ContainsFunc_of_api_Right
  obtain ⟨r, h1, h2⟩ := IndexFunc_eq s p hl
  rw [h1]
  rcases h2 with ⟨h2, h3⟩ | ⟨h2, h3⟩
  · simp [h2, h3]
  · subst h2; simp [h3]

/-- A right that is in order by itself. -/
def rightOK (y : Right) : Prop := (0 ≤ y.State ∧ y.State ≤ 5) ∧ (1 ≤ y.Basis ∧ y.Basis ≤ 3) ∧ (1 ≤ y.Currency ∧ y.Currency ≤ 999) ∧ (1 ≤ y.Amount ∧ y.Amount ≤ 1000000000000)
instance (y : Right) : Decidable (rightOK y) := by unfold rightOK; infer_instance
/-- Right x of the list is in order, and of another state than those ahead of it. -/
def rgtOK (l : List Right) (x : Nat) : Prop := ∃ y, l[x]? = some y ∧ rightOK y ∧ ∀ k o, k < x → l[k]? = some o → o.State ≠ y.State
/-- A list of rights that is in order. -/
def rightsOK (l : List Right) : Prop := l.length ≤ 6 ∧ ∀ x, x < l.length → rgtOK l x
theorem rightOK_bool (y : Right) : (((((((decide (y.State < 0) || decide (6 ≤ y.State)) || decide (y.Basis < 1)) || decide (3 < y.Basis)) || decide (y.Currency < 1)) || decide (999 < y.Currency)) || decide (y.Amount < 1)) || decide (1000000000000 < y.Amount)) = !decide (rightOK y) := by
  rw [Bool.eq_iff_iff]
  simp only [Bool.or_eq_true, decide_eq_true_eq, Bool.not_eq_true', decide_eq_false_iff_not]
  unfold rightOK
  constructor
  · intro h hh; omega
  · intro h
    by_cases h1 : y.State < 0 <;> by_cases h2 : 6 ≤ y.State <;> by_cases h3 : y.Basis < 1 <;> by_cases h4 : 3 < y.Basis <;> by_cases h5 : y.Currency < 1 <;> by_cases h6 : 999 < y.Currency <;> by_cases h7 : y.Amount < 1 <;> by_cases h8 : 1000000000000 < y.Amount <;> first
      | (exfalso; apply h; omega)
      | simp [*]
theorem rights_loop (f : (Int → Option Bool) → Int → Option Bool) (l : List Right) (hl : l.length ≤ 6)
    (hround : ∀ rec (x : Nat), x < l.length → (f rec x = rec ((x + 1 : Nat) : Int) ∧ rgtOK l x) ∨ (f rec x = some false ∧ ¬ rgtOK l x)) (hend : ∀ rec, f rec (l.length : Int) = some true) :
    ∃ r, loopC FU f 0 = some r ∧ (r = true ∧ rightsOK l ∨ r = false ∧ ¬ rightsOK l) := by
  refine loopC_FU (fun s => ∃ x : Nat, s = (x : Int) ∧ x ≤ l.length ∧ ∀ y, y < x → rgtOK l y) (fun s => l.length - s.toNat) _ ⟨0, rfl, Nat.zero_le _, fun _ h => absurd h (Nat.not_lt_zero _)⟩ (by show l.length - _ < _; omega) ?_
  rintro s rec ⟨x, rfl, hx, hall⟩
  by_cases h : x < l.length
  · rcases hround rec x h with ⟨h1, h2⟩ | ⟨h1, h2⟩
    · right
      refine ⟨_, h1, ⟨x + 1, rfl, h, fun y hy => ?_⟩, by simp only [Int.toNat_natCast]; omega⟩
      by_cases hyx : y = x
      · rw [hyx]; exact h2
      · exact hall y (by omega)
    · left
      exact ⟨false, h1, .inr ⟨rfl, fun hh => h2 (hh.2 x h)⟩⟩
  · have : x = l.length := by omega
    subst this
    left
    exact ⟨true, hend rec, .inl ⟨rfl, hl, hall⟩⟩
theorem any_take (l : List Right) (x : Nat) (hx : x ≤ l.length) (y : Right) : ((l.take x).any fun o => o.State == y.State) = true ↔ ∃ k o, k < x ∧ l[k]? = some o ∧ o.State = y.State := by
  rw [List.any_eq_true]
  constructor
  · rintro ⟨o, ho, hs⟩
    obtain ⟨k, hk, hko⟩ := List.mem_iff_getElem.1 ho
    have hk' : k < x := by rw [List.length_take] at hk; omega
    refine ⟨k, o, hk', ?_, by simpa using hs⟩
    rw [List.getElem_take] at hko
    rw [List.getElem?_eq_getElem (by omega), hko]
  · rintro ⟨k, o, hk, ho, hs⟩
    obtain ⟨hk1, ho1⟩ := List.getElem?_eq_some_iff.1 ho
    refine ⟨o, ?_, by simpa using hs⟩
    have : (l.take x)[k]'(by rw [List.length_take]; omega) = o := by rw [List.getElem_take]; exact ho1
    rw [← this]; exact List.getElem_mem _
theorem valid_eq (l : List Right) : ∃ r, family_valid l = some r ∧ (r = true ∧ rightsOK l ∨ r = false ∧ ¬ rightsOK l) := by
  unfold family_valid
  by_cases h : 6 < l.length
  · rw [if_pos (by simp; omega)]
    exact ⟨false, rfl, .inr ⟨rfl, fun hh => absurd hh.1 (by omega)⟩⟩
  · rw [if_neg (by simp; omega)]
    refine rights_loop _ l (by omega) ?_ (fun rec => by unfold family_valid_l; rw [if_neg (by simp)])
    intro rec x hx
    have hy : l[x]? = some l[x] := List.getElem?_eq_getElem hx
    have hgx : getI l (x : Int) = some l[x] := by rw [getI_nat]; exact hy
    generalize l[x] = y at *
    unfold family_valid_l family_valid_1
    rw [if_pos (by simp; omega), hgx]
    simp only [Option.bind_some, rightOK_bool]
    by_cases hr : rightOK y
    · simp only [hr, decide_true, Bool.not_true, Bool.false_eq_true, if_false]
      rw [sliceI_of (by omega) (by omega) (by omega)]
      simp only [Option.bind_some, Int.toNat_zero, List.drop_zero, Int.toNat_natCast, Nat.sub_zero]
      rw [ContainsFunc_eq _ (fun o => o.State == y.State) (by rw [List.length_take]; omega)]
      simp only [Option.bind_some]
      have ha := any_take l x (by omega) y
      by_cases hc : ((l.take x).any fun o => o.State == y.State) = true
      · right
        rw [if_pos hc]
        obtain ⟨k, o, h1, h2, h3⟩ := ha.1 hc
        refine ⟨rfl, ?_⟩
        rintro ⟨z, hz, _, hz2⟩
        rw [hy] at hz; cases hz
        exact hz2 k o h1 h2 h3
      · left
        rw [if_neg hc, i64_id (by omega) (by omega)]
        exact ⟨by simp, y, hy, hr, fun k o h1 h2 h3 => hc (ha.2 ⟨k, o, h1, h2, h3⟩)⟩
    · right
      simp only [hr, decide_false, Bool.not_false, if_true, true_and]
      rintro ⟨z, hz, h2, _⟩
      rw [hy] at hz; cases hz
      exact hr h2
theorem ValidRights_eq (l : List Right) : ∃ r, pensionref21_ValidRights l = some r ∧ (r = true ∧ rightsOK l ∨ r = false ∧ ¬ rightsOK l) := by
  unfold pensionref21_ValidRights
  by_cases h : 6 < l.length
  · rw [if_pos (by simp; omega)]
    exact ⟨false, rfl, .inr ⟨rfl, fun hh => absurd hh.1 (by omega)⟩⟩
  · rw [if_neg (by simp; omega)]
    refine rights_loop _ l (by omega) ?_ (fun rec => by unfold pensionref21_ValidRights_l; rw [if_neg (by simp)])
    intro rec x hx
    have hy : l[x]? = some l[x] := List.getElem?_eq_getElem hx
    have hgx : getI l (x : Int) = some l[x] := by rw [getI_nat]; exact hy
    generalize l[x] = y at *
    unfold pensionref21_ValidRights_l
    rw [if_pos (by simp; omega), hgx]
    simp only [Option.bind_some, rightOK_bool]
    by_cases hr : rightOK y
    · simp only [hr, decide_true, Bool.not_true, Bool.false_eq_true, if_false]
      refine loopC_innerFU (fun s => ∃ k : Nat, s = (k : Int) ∧ k ≤ x ∧ ∀ j o, j < k → l[j]? = some o → o.State ≠ y.State) (fun s => x - s.toNat)
        (fun o => (o = rec ((x + 1 : Nat) : Int) ∧ rgtOK l x) ∨ (o = some false ∧ ¬ rgtOK l x)) ⟨0, rfl, Nat.zero_le _, fun _ _ h => absurd h (Nat.not_lt_zero _)⟩ (by show x - _ < _; omega) ?_
      rintro s rec2 ⟨k, rfl, hk, hall⟩
      unfold pensionref21_ValidRights_l2
      by_cases hkx : k < x
      · have hky : l[k]? = some l[k] := List.getElem?_eq_getElem (by omega)
        have hgk : getI l (k : Int) = some l[k] := by rw [getI_nat]; exact hky
        rw [if_pos (by simp; omega), hgk]
        simp only [Option.bind_some]
        by_cases hs : l[k].State = y.State
        · left; right
          rw [if_pos (by simpa using hs)]
          refine ⟨rfl, ?_⟩
          rintro ⟨z, hz, _, hz2⟩
          rw [hy] at hz; cases hz
          exact hz2 k _ hkx hky hs
        · right
          rw [if_neg (by simpa using hs), i64_id (by omega) (by omega)]
          refine ⟨_, rfl, ⟨k + 1, by simp, hkx, fun j o hj ho => ?_⟩, by omega⟩
          by_cases hjk : j = k
          · subst hjk; rw [hky] at ho; cases ho; exact hs
          · exact hall j o (by omega) ho
      · left; left
        rw [if_neg (by simp; omega), i64_id (by omega) (by omega)]
        have : k = x := by omega
        subst this
        exact ⟨by simp, y, hy, hr, hall⟩
    · right
      simp only [hr, decide_false, Bool.not_false, if_true, true_and]
      rintro ⟨z, hz, h2, _⟩
      rw [hy] at hz; cases hz
      exact hr h2
end Go.PL
