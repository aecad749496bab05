/- Parents, alive, raises, residence: program and reference alike. No program in sight. -/
import Derived.Test.YtndkbfbjjnhgoaaGreatDoorMrr
set_option linter.unusedVariables false
namespace Go.PL
open Go

theorem filter_eq (l : List api_Fact) (want : api_Fact → Option Bool) (p : api_Fact → Bool) (hw : ∀ x, want x = some (p x)) (hl : l.length ≤ 2 ^ 20) : career_filter l want = some (l.filter p) := by
  unfold career_filter
  refine loop_list (f := career_filter_l l want) l (fun s i => (i, s) |> fun q => (q.2, q.1)) (fun s i => s = (l.take i).filter p) (fun o => o = some (l.filter p)) (by omega) ?_ ?_ [] (by simp)
  · rintro rec s i y hi hy rfl
    right
    refine ⟨_, ?_, rfl⟩
    have hlen : ((l.take i).filter p).length ≤ i := by
      have := List.length_filter_le p (l.take i); rw [List.length_take] at this; omega
    unfold career_filter_l career_filter_j
    dsimp only
    rw [if_pos (by simp; omega), getI_ix hy, Option.bind_some, hw, Option.bind_some, idx_succ (by omega), take_ix hy, List.filter_append]
    cases hp : p y with
    | true => rw [if_pos rfl, appI_of (by simp; omega), Option.bind_some]; simp [hp]
    | false => rw [if_neg (by simp)]; simp [hp]
  · rintro rec s rfl
    unfold career_filter_l
    dsimp only
    rw [if_neg (by simp), List.take_length]
theorem Of_prog (l : List api_Fact) (p : Int) (hl : l.length ≤ 2 ^ 20) : career_Of l p = some (l.filter (fun y => y.Person == p)) := by
  unfold career_Of
  rw [filter_eq l (fun x => career_Of_1 x p) (fun y => y.Person == p) (fun x => rfl) hl]; rfl
theorem Of_ref (l : List api_Fact) (p : Int) (hl : l.length ≤ 2 ^ 20) : pensionref12_Of l p = some (l.filter (fun y => y.Person == p)) := by
  unfold pensionref12_Of
  refine loop_list (f := pensionref12_Of_l l p) l (fun s i => (s, i)) (fun s i => s = (l.take i).filter (fun y => y.Person == p)) (fun o => o = some (l.filter (fun y => y.Person == p))) (by omega) ?_ ?_ [] (by simp)
  · rintro rec s i y hi hy rfl
    right
    refine ⟨_, ?_, rfl⟩
    have hlen : ((l.take i).filter (fun y => y.Person == p)).length ≤ i := by
      have := List.length_filter_le (fun y : api_Fact => y.Person == p) (l.take i); rw [List.length_take] at this; omega
    unfold pensionref12_Of_l pensionref12_Of_j
    dsimp only
    rw [if_pos (by simp; omega), getI_ix hy]
    simp only [Option.bind_some]
    rw [idx_succ (by omega), take_ix hy, List.filter_append]
    cases hp : (y.Person == p) with
    | true => rw [if_pos rfl, appI_of (by simp; omega), Option.bind_some]; simp [hp]
    | false => rw [if_neg (by simp)]; simp [hp]
  · rintro rec s rfl
    unfold pensionref12_Of_l
    dsimp only
    rw [if_neg (by simp), List.take_length]
/-- The current facts of the merged list. -/
def fcs (l : List api_Fact) : List api_Fact := (mrgF l).filter cur
theorem fcs_len (l : List api_Fact) : (fcs l).length ≤ l.length := Nat.le_trans (List.length_filter_le _ _) (mrgF_ok l).2.2
theorem facts_prog (l : List api_Fact) (hl : l.length ≤ 2 ^ 20) : family_facts l = some (fcs l) := by
  have := (mrgF_ok l).2.2
  unfold family_facts career_Current
  rw [Merge_prog l hl, Option.bind_some, filter_eq (mrgF l) _ cur current_eq (by omega)]; rfl
theorem facts_ref (l : List api_Fact) (hl : l.length ≤ 2 ^ 20) : pensionref21_facts l = some (fcs l) := by
  have := (mrgF_ok l).2.2
  unfold pensionref21_facts
  rw [Merge_ref l hl, Option.bind_some, Current_eq _ (by omega)]; rfl
def alv (l : List api_Fact) (p day : Int) : Bool := let z := ((l.filter (fun y => y.Person == p)).filter cur).foldl (fstep 12) (0, false); (!z.2) || decide (day ≤ z.1)
theorem alive_prog (l : List api_Fact) (p day : Int) (hl : l.length ≤ 2 ^ 20) : family_alive l p day = some (alv l p day) := by
  have := List.length_filter_le (fun y : api_Fact => y.Person == p) l
  unfold family_alive career_Death
  rw [Of_prog l p hl, Option.bind_some, first_eq _ 12 (by omega)]; rfl
theorem alive_ref (l : List api_Fact) (p day : Int) (hl : l.length ≤ 2 ^ 20) : pensionref21_Alive l p day = some (alv l p day) := by
  have := List.length_filter_le (fun y : api_Fact => y.Person == p) l
  unfold pensionref21_Alive pensionref12_Death
  rw [Of_ref l p hl, Option.bind_some, least_eq' _ 12 (by omega)]; rfl
def rsd (child day : Int) (f : api_Fact) : Bool := (((f.Kind == 10) && (f.Ref == child)) && decide (f.Span.From ≤ day)) && decide (day < f.Span.To)
theorem index_eq (l : List api_Fact) (w : api_Fact → Option Bool) (p : api_Fact → Bool) (hw : ∀ x, w x = some (p x)) (hl : l.length ≤ 2 ^ 20) : slices_ContainsFunc_of_api_Fact l w = some (l.any p) := by
  unfold slices_ContainsFunc_of_api_Fact slices_IndexFunc_of_api_Fact
  have : ∃ r, loopC FU (slices_IndexFunc_of_api_Fact_l l w) 0 = some r ∧ decide (0 ≤ r) = l.any p := by
    refine loop_list (f := slices_IndexFunc_of_api_Fact_l l w) l (fun (_ : Unit) i => i) (fun _ i => (l.take i).any p = false) (fun o => ∃ r, o = some r ∧ decide (0 ≤ r) = l.any p) (by omega) ?_ ?_ () (by simp)
    · rintro rec _ i y hi hy h
      unfold slices_IndexFunc_of_api_Fact_l
      rw [if_pos (by simp; omega), getI_ix hy, Option.bind_some, hw, Option.bind_some, idx_succ (by omega)]
      cases hp : p y with
      | true =>
        left
        rw [if_pos rfl]
        refine ⟨_, rfl, ?_⟩
        have : l.any p = true := List.any_eq_true.2 ⟨y, List.mem_of_getElem? hy, hp⟩
        rw [this]; simp
      | false =>
        right
        rw [if_neg (by simp)]
        refine ⟨(), rfl, ?_⟩
        rw [take_ix hy, List.any_append, h]; simp [hp]
    · rintro rec _ h
      unfold slices_IndexFunc_of_api_Fact_l
      rw [if_neg (by simp)]
      rw [List.take_length] at h
      exact ⟨_, rfl, by rw [h]; rfl⟩
  obtain ⟨r, h1, h2⟩ := this
  rw [h1, Option.bind_some, h2]
def rai (l : List api_Fact) (p child day : Int) : Bool := l.any fun y => (y.Person == p) && rsd child day y
theorem raises_prog (l : List api_Fact) (p child day : Int) (hl : l.length ≤ 2 ^ 20) : family_raises (l.filter (fun y => y.Person == p)) child day = some (rai l p child day) := by
  have := List.length_filter_le (fun y : api_Fact => y.Person == p) l
  unfold family_raises
  rw [index_eq _ (fun x => family_raises_1 x child day) (rsd child day) (fun x => rfl) (by omega), Option.bind_some, List.any_filter]; rfl
theorem raises_ref (l : List api_Fact) (p child day : Int) (hl : l.length ≤ 2 ^ 20) : pensionref21_raises l p child day = some (rai l p child day) := by
  unfold pensionref21_raises
  refine loop_list (f := pensionref21_raises_l l p child day) l (fun (_ : Unit) i => i) (fun _ i => rai (l.take i) p child day = false) (fun o => o = some (rai l p child day)) (by omega) ?_ ?_ () (by simp [rai])
  · rintro rec _ i y hi hy h
    unfold pensionref21_raises_l
    rw [if_pos (by simp; omega), getI_ix hy]
    simp only [Option.bind_some, ite_and]
    rw [idx_succ (by omega)]
    by_cases hc : (((((y.Person == p) && (y.Kind == 10)) && (y.Ref == child)) && decide (y.Span.From ≤ day)) && decide (day < y.Span.To)) = true
    · left
      rw [if_pos hc]
      have : rai l p child day = true := List.any_eq_true.2 ⟨y, List.mem_of_getElem? hy, by
        unfold rsd; simp only [Bool.and_eq_true] at hc ⊢; exact ⟨hc.1.1.1.1, ⟨⟨hc.1.1.1.2, hc.1.1.2⟩, hc.1.2⟩, hc.2⟩⟩
      rw [this]
    · right
      rw [if_neg hc]
      refine ⟨(), rfl, ?_⟩
      have e : rai (l.take i ++ [y]) p child day = (rai (l.take i) p child day || ((y.Person == p) && rsd child day y)) := by unfold rai; simp
      rw [take_ix hy, e, h, Bool.false_or, ← Bool.not_eq_true]
      intro hh
      unfold rsd at hh
      simp only [Bool.and_eq_true] at hh hc
      exact hc ⟨⟨⟨⟨hh.1, hh.2.1.1.1⟩, hh.2.1.1.2⟩, hh.2.1.2⟩, hh.2.2⟩
  · rintro rec _ h
    unfold pensionref21_raises_l
    rw [if_neg (by simp)]
    rw [List.take_length] at h
    rw [h]

/-- The persons 1 to 99. -/
def prs : List Int := (List.range 99).map fun (i : Nat) => (i : Int) + 1
theorem prs_ix {i : Nat} {y : Int} (h : prs[i]? = some y) : y = (i : Int) + 1 := by
  unfold prs at h
  rw [List.getElem?_map] at h
  obtain ⟨j, hj, rfl⟩ := Option.map_eq_some_iff.1 h
  have hi : i < 99 := by
    have := (List.getElem?_eq_some_iff.1 hj).1; simpa using this
  rw [List.getElem?_range hi] at hj
  rw [Option.some.inj hj]
def parB (l : List api_Fact) (child day p : Int) : Bool := ((p != child) && rai l p child day) && alv l p day
def parF (l : List api_Fact) (child day : Int) : List Int :=
  if (((decide (child < 1) || decide (99 < child)) || decide (day < 0)) || decide (73048 < day)) = true ∨ alv l child day = false then [] else prs.filter (parB l child day)
theorem prs_len : prs.length = 99 := by unfold prs; simp
theorem parents_prog (l : List api_Fact) (child day : Int) (hl : l.length ≤ 2 ^ 20) : family_parents l child day = some (parF l child day) := by
  unfold family_parents
  rw [alive_prog l child day hl, Option.bind_some, ite_or, Option.bind_some]
  unfold parF
  by_cases hc : ((((decide (child < 1) || decide (99 < child)) || decide (day < 0)) || decide (73048 < day)) || !alv l child day) = true
  · rw [if_pos hc, if_pos]
    rw [Bool.or_eq_true, Bool.not_eq_true'] at hc; exact hc
  · rw [if_neg hc, if_neg (by rw [Bool.or_eq_true, Bool.not_eq_true'] at hc; exact hc)]
    refine loop_list (f := family_parents_l l child day) prs (fun s i => (s, i + 1)) (fun s i => s = (prs.take i).filter (parB l child day)) (fun o => o = some (prs.filter (parB l child day))) (by rw [prs_len]; omega) ?_ ?_ [] (by simp)
    · rintro rec s i y hi hy rfl
      right
      refine ⟨_, ?_, rfl⟩
      rw [prs_len] at hi
      have hlen : ((prs.take i).filter (parB l child day)).length ≤ i := by
        have := List.length_filter_le (parB l child day) (prs.take i); rw [List.length_take] at this; omega
      have hye := prs_ix hy
      unfold family_parents_l family_parents_j
      dsimp only
      rw [if_pos (by simp; omega), Of_prog l _ hl]
      simp only [Option.bind_some]
      rw [raises_prog l _ child day hl, alive_prog l _ day hl]
      simp only [Option.bind_some, ite_and]
      rw [i64_id (n := (i : Int) + 1 + 1) (by omega) (by omega), take_ix hy, List.filter_append, ← hye]
      have hb : (((y != child) && rai l y child day) && alv l y day) = parB l child day y := rfl
      rw [hb]
      have hii : y + 1 = (((i + 1 : Nat) : Int)) + 1 := by rw [hye]; simp
      cases hp : parB l child day y with
      | true => rw [if_pos rfl, appI_of (by simp; omega), Option.bind_some, hii]; simp [hp]
      | false => rw [if_neg (by simp), hii]; simp [hp]
    · rintro rec s rfl
      unfold family_parents_l
      dsimp only
      rw [prs_len, if_neg (by simp)]
      rw [show (99 : Nat) = prs.length from prs_len.symm, List.take_length]
theorem parents_ref (l : List api_Fact) (child day : Int) (hl : l.length ≤ 2 ^ 20) : pensionref21_Parents l child day = some (parF (fcs l) child day) := by
  have hf := fcs_len l
  unfold pensionref21_Parents pensionref1_ValidDay
  rw [facts_ref l hl, Option.bind_some, alive_ref _ child day (by omega)]
  simp only [Option.bind_some, ite_or]
  generalize fcs l = z at hf
  unfold parF
  have hv : ((decide (child < 1) || decide (99 < child)) || !(decide (0 ≤ day) && decide (day ≤ 73048))) = (((decide (child < 1) || decide (99 < child)) || decide (day < 0)) || decide (73048 < day)) := by
    rw [Bool.eq_iff_iff]; simp; omega
  rw [hv]
  by_cases hc : ((((decide (child < 1) || decide (99 < child)) || decide (day < 0)) || decide (73048 < day)) || !alv z child day) = true
  · rw [if_pos hc, if_pos]
    rw [Bool.or_eq_true, Bool.not_eq_true'] at hc; exact hc
  · rw [if_neg hc, if_neg (by rw [Bool.or_eq_true, Bool.not_eq_true'] at hc; exact hc)]
    refine loop_list (f := pensionref21_Parents_l child day z) prs (fun s i => (s, i + 1)) (fun s i => s = (prs.take i).filter (parB z child day)) (fun o => o = some (prs.filter (parB z child day))) (by rw [prs_len]; omega) ?_ ?_ [] (by simp)
    · rintro rec s i y hi hy rfl
      right
      refine ⟨_, ?_, rfl⟩
      rw [prs_len] at hi
      have hlen : ((prs.take i).filter (parB z child day)).length ≤ i := by
        have := List.length_filter_le (parB z child day) (prs.take i); rw [List.length_take] at this; omega
      have hye := prs_ix hy
      unfold pensionref21_Parents_l pensionref21_Parents_j
      dsimp only
      rw [if_pos (by simp; omega), alive_ref z _ day (by omega), raises_ref z _ child day (by omega)]
      simp only [Option.bind_some, ite_and]
      rw [i64_id (n := (i : Int) + 1 + 1) (by omega) (by omega), take_ix hy, List.filter_append, ← hye]
      have hb : (((y != child) && alv z y day) && rai z y child day) = parB z child day y := by
        unfold parB
        cases (y != child) <;> cases alv z y day <;> cases rai z y child day <;> rfl
      rw [hb]
      have hii : y + 1 = (((i + 1 : Nat) : Int)) + 1 := by rw [hye]; simp
      cases hp : parB z child day y with
      | true => rw [if_pos rfl, appI_of (by simp; omega), Option.bind_some, hii]; simp [hp]
      | false => rw [if_neg (by simp), hii]; simp [hp]
    · rintro rec s rfl
      unfold pensionref21_Parents_l
      dsimp only
      rw [prs_len, if_neg (by simp)]
      rw [show (99 : Nat) = prs.length from prs_len.symm, List.take_length]
end Go.PL
