/- Residence and Home alike; law FamilyParentsAgree. No program in sight. -/
import Derived.Test.YtndkbfbjjnhgoaaGreatDoorPar
import Derived.Test.YtndkbfbjjnhgoaaGreatDoorHnd
set_option linter.unusedVariables false
namespace Go.PL
open Go

def resB (day : Int) (y : api_Fact) : Bool := (y.Kind == 5) && (decide (y.Span.From ≤ day) && decide (day < y.Span.To))
def better (v y : api_Fact) : Bool := decide (v.Span.From < y.Span.From) || ((y.Span.From == v.Span.From) && decide (y.State < v.State))
def resS (day : Int) (s : Option api_Fact) (y : api_Fact) : Option api_Fact := if resB day y = true then (match s with | none => some y | some v => if better v y = true then some y else some v) else s
theorem resS_no {day : Int} {y : api_Fact} (h : resB day y = false) (s : Option api_Fact) : resS day s y = s := by unfold resS; rw [if_neg (by simp [h])]
theorem resS_none {day : Int} {y : api_Fact} (h : resB day y = true) : resS day none y = some y := by unfold resS; rw [if_pos h]
theorem resS_some {day : Int} {y : api_Fact} (h : resB day y = true) (v : api_Fact) : resS day (some v) y = if better v y = true then some y else some v := by unfold resS; rw [if_pos h]
def resR (s : Option api_Fact) : Int × Bool := match s with | none => (0, false) | some v => (v.State, true)
def zeroF : api_Fact := ⟨0, 0, 0, false, 0, 0, 0, (⟨0, 0⟩ : Span), 0, 0, 0, 0, 0⟩
def inL (s : Span) (day : Int) : Bool := decide (s.From ≤ day) && decide (day < s.To)
theorem indexS_eq (l : List Span) (w : Span → Option Bool) (p : Span → Bool) (hw : ∀ x, w x = some (p x)) (hl : l.length ≤ 2 ^ 20) : slices_ContainsFunc_of_api_Span l w = some (l.any p) := by
  unfold slices_ContainsFunc_of_api_Span slices_IndexFunc_of_api_Span
  have : ∃ r, loopC FU (slices_IndexFunc_of_api_Span_l l w) 0 = some r ∧ decide (0 ≤ r) = l.any p := by
    refine loop_list (f := slices_IndexFunc_of_api_Span_l l w) l (fun (_ : Unit) i => i) (fun _ i => (l.take i).any p = false) (fun o => ∃ r, o = some r ∧ decide (0 ≤ r) = l.any p) (by omega) ?_ ?_ () (by simp)
    · rintro rec _ i y hi hy h
      unfold slices_IndexFunc_of_api_Span_l
      rw [if_pos (by simp; omega), getI_ix hy, Option.bind_some, hw, Option.bind_some, idx_succ (by omega)]
      cases hp : p y with
      | true =>
        left
        rw [if_pos rfl]
        refine ⟨_, rfl, ?_⟩
        have : l.any p = true := List.any_eq_true.2 ⟨y, List.mem_of_getElem? hy, hp⟩
        rw [this]; simp
      | false =>
        right
        rw [if_neg (by simp)]
        refine ⟨(), rfl, ?_⟩
        rw [take_ix hy, List.any_append, h]; simp [hp]
    · rintro rec _ h
      unfold slices_IndexFunc_of_api_Span_l
      rw [if_neg (by simp)]
      rw [List.take_length] at h
      exact ⟨_, rfl, by rw [h]; rfl⟩
  obtain ⟨r, h1, h2⟩ := this
  rw [h1, Option.bind_some, h2]
def lifeOf (d : List api_Fact) : Span := (career_Life d).getD ⟨0, 0⟩
theorem life_prog (d : List api_Fact) (hd : d.length ≤ 2 ^ 20) : career_Life d = some (lifeOf d) ∧ pensionref12_Life d = some (lifeOf d) := by
  obtain ⟨s, h1, h2⟩ := Life_agree d (by omega)
  unfold lifeOf
  rw [h1, h2]; exact ⟨rfl, rfl⟩
def resF (d : List api_Fact) (day : Int) : Int × Bool := if inL (lifeOf d) day = true then resR ((d.filter cur).foldl (resS day) none) else (0, false)
set_option maxHeartbeats 1000000 in
theorem Res_prog (d : List api_Fact) (day : Int) (hd : d.length ≤ 2 ^ 20) (h0 : 0 ≤ day) (h1 : day ≤ 73048) : career_Residence d day = some (resF d day) := by
  unfold career_Residence calendar_Valid spans_Contains
  rw [Option.bind_some, if_neg (by simp; omega), (life_prog d hd).1, Option.bind_some, if_neg (by simp; omega), indexS_eq [lifeOf d] (fun x => spans_Contains_1 x day) (fun s => inL s day) (fun x => rfl) (by simp)]
  simp only [Option.bind_some, List.any_cons, List.any_nil, Bool.or_false]
  unfold resF
  by_cases hin : inL (lifeOf d) day = true
  · rw [if_neg (by simp [hin]), if_pos hin, List.foldl_filter]
    refine loop_list (f := career_Residence_l d day) d (fun (s : Option api_Fact) i => (s.isSome, i, s.getD zeroF)) (fun s i => s = (d.take i).foldl (fun x y => if cur y = true then resS day x y else x) none) (fun o => o = some (resR (d.foldl (fun x y => if cur y = true then resS day x y else x) none))) (by omega) ?_ ?_ none (by simp)
    · rintro rec s i y hi hy rfl
      right
      generalize hS : (d.take i).foldl (fun x y => if cur y = true then resS day x y else x) none = S
      refine ⟨if cur y = true then resS day S y else S, ?_, by rw [foldl_take hy, hS]⟩
      unfold career_Residence_l career_Residence_j
      dsimp only
      rw [if_pos (by simp; omega), getI_ix hy, Option.bind_some, current_eq, Option.bind_some, idx_succ (by omega)]
      have hskip : ((((!cur y) || (y.Kind != 5)) || decide (day < y.Span.From)) || decide (y.Span.To ≤ day)) = !(cur y && resB day y) := by
        unfold resB
        rw [Bool.eq_iff_iff]
        cases hc : cur y <;> cases hk : (y.Kind == 5) <;> simp [bne, hk] <;> omega
      rw [hskip]
      cases hc : cur y with
      | false => simp
      | true =>
        rw [if_pos rfl]
        cases hb : resB day y with
        | false => rw [resS_no hb]; simp
        | true =>
          rw [if_neg (by simp)]
          cases S with
          | none => rw [resS_none hb]; simp
          | some v =>
            rw [resS_some hb]
            have e : (((!(some v).isSome) || decide (((some v).getD zeroF).Span.From < y.Span.From)) || ((y.Span.From == ((some v).getD zeroF).Span.From) && decide (y.State < ((some v).getD zeroF).State))) = better v y := by simp [better]
            rw [e]
            cases hbt : better v y <;> simp
    · rintro rec s rfl
      unfold career_Residence_l
      dsimp only
      rw [if_neg (by simp), List.take_length]
      cases d.foldl (fun x y => if cur y = true then resS day x y else x) none <;> rfl
  · rw [if_pos (by simpa using hin), if_neg hin]
set_option maxHeartbeats 1000000 in
theorem Res_ref (d : List api_Fact) (day : Int) (hd : d.length ≤ 2 ^ 20) : pensionref12_Residence d day = some (resF d day) := by
  have hl := (life_prog d hd).2
  have hq : (d.filter cur).length ≤ 2 ^ 20 := Nat.le_trans (List.length_filter_le _ _) hd
  unfold pensionref12_Residence
  rw [Current_eq d (by omega), Option.bind_some]
  unfold resF
  generalize d.filter cur = z at hq
  by_cases hin : inL (lifeOf d) day = true
  · rw [if_pos hin]
    refine loop_list (f := pensionref12_Residence_l d day z) z (fun (x : Int) i => (x, i)) (fun x i => (x = -1 ∧ (z.take i).foldl (resS day) none = none) ∨ ∃ (j : Nat) (v : api_Fact), x = (j : Int) ∧ z[j]? = some v ∧ (z.take i).foldl (resS day) none = some v) (fun o => o = some (resR (z.foldl (resS day) none))) (by omega) ?_ ?_ (-1) (.inl ⟨rfl, by simp⟩)
    · rintro rec x i y hi hy hx
      right
      rw [foldl_take hy]
      unfold pensionref12_Residence_l pensionref12_Residence_j pensionref12_in
      dsimp only
      rw [if_pos (by simp; omega), hl]
      simp only [Option.bind_some]
      have hin' : (decide ((lifeOf d).From ≤ day) && decide (day < (lifeOf d).To)) = true := hin
      rw [if_pos hin', getI_ix hy]
      simp only [Option.bind_some, ite_or]
      rw [idx_succ (by omega)]
      have hskip : ((y.Kind != 5) || !(decide (y.Span.From ≤ day) && decide (day < y.Span.To))) = !(resB day y) := by
        unfold resB; cases hk : (y.Kind == 5) <;> simp [bne, hk]
      rw [hskip]
      cases hb : resB day y with
      | false =>
        rw [if_pos (by rfl), resS_no hb]
        exact ⟨x, rfl, hx⟩
      | true =>
        rw [if_neg (by simp)]
        rcases hx with ⟨rfl, hS⟩ | ⟨j, v, rfl, hj, hS⟩
        · rw [hS, resS_none hb, if_pos (by decide), Option.bind_some, if_pos (by rfl), Option.bind_some, if_pos (by rfl)]
          exact ⟨(i : Int), rfl, .inr ⟨i, y, rfl, hy, rfl⟩⟩
        · rw [hS, resS_some hb, getI_ix hj]
          simp only [Option.bind_some, ite_and, ite_or]
          have e : ((decide ((j : Int) < 0) || decide (v.Span.From < y.Span.From)) || ((y.Span.From == v.Span.From) && decide (y.State < v.State))) = better v y := by
            rw [show decide ((j : Int) < 0) = false by simp, Bool.false_or]; rfl
          rw [e]
          cases hbt : better v y with
          | true => rw [if_pos rfl]; exact ⟨(i : Int), rfl, .inr ⟨i, y, rfl, hy, by simp⟩⟩
          | false => rw [if_neg (by simp)]; exact ⟨(j : Int), rfl, .inr ⟨j, v, rfl, hj, by simp⟩⟩
    · rintro rec x hx
      rw [List.take_length] at hx
      unfold pensionref12_Residence_l
      dsimp only
      rw [if_neg (by simp), Option.bind_some, if_neg (by simp)]
      rcases hx with ⟨rfl, hS⟩ | ⟨j, v, rfl, hj, hS⟩
      · rw [hS, if_pos (by decide)]; rfl
      · rw [hS, if_neg (by simp), getI_ix hj]; rfl
  · rw [if_neg hin]
    refine loopC_innerFU (f := pensionref12_Residence_l d day z) (fun st => st = (-1, 0)) (fun _ => 0) (fun o => o = some ((0 : Int), false)) rfl (by omega) ?_
    rintro st rec rfl
    left
    unfold pensionref12_Residence_l pensionref12_in
    dsimp only
    rw [hl]
    simp only [Option.bind_some, ite_and]
    have hin' : (decide ((lifeOf d).From ≤ day) && decide (day < (lifeOf d).To)) = false := by rw [← Bool.not_eq_true]; exact hin
    rw [hin', Bool.and_false, if_neg (by simp), if_pos (by decide)]
def homF (l : List api_Fact) (child day : Int) : Int × Bool := match parF (fcs l) child day with
  | [] => (0, false)
  | p :: _ => resF ((fcs l).filter (fun y => y.Person == p)) day
theorem Home_prog (l : List api_Fact) (child day : Int) (hl : l.length ≤ 2 ^ 20) (h0 : 0 ≤ day) (h1 : day ≤ 73048) : family_Home l child day = some (homF l child day) := by
  have hf := fcs_len l
  unfold family_Home homF
  rw [facts_prog l hl, Option.bind_some, parents_prog _ child day (by omega), Option.bind_some]
  cases parF (fcs l) child day with
  | nil => rw [if_pos (by rfl)]
  | cons p t =>
    have := List.length_filter_le (fun y : api_Fact => y.Person == p) (fcs l)
    rw [if_neg (by simp; omega), show getI (p :: t) 0 = some p from rfl, Option.bind_some, Of_prog _ p (by omega), Option.bind_some, Res_prog _ day (by omega) h0 h1]; rfl
theorem Home_ref (l : List api_Fact) (child day : Int) (hl : l.length ≤ 2 ^ 20) : pensionref21_Home l child day = some (homF l child day) := by
  have hf := fcs_len l
  unfold pensionref21_Home homF
  rw [parents_ref l child day hl, Option.bind_some]
  cases parF (fcs l) child day with
  | nil => rw [if_pos (by rfl)]
  | cons p t =>
    have := List.length_filter_le (fun y : api_Fact => y.Person == p) (fcs l)
    rw [if_neg (by simp; omega), facts_ref l hl, Option.bind_some, show getI (p :: t) 0 = some p from rfl, Option.bind_some, Of_ref _ p (by omega), Option.bind_some, Res_ref _ day (by omega)]; rfl
theorem Parents_prog (l : List api_Fact) (child day : Int) (hl : l.length ≤ 2 ^ 20) : family_Parents l child day = some (parF (fcs l) child day) := by
  have hf := fcs_len l
  unfold family_Parents
  rw [facts_prog l hl, Option.bind_some, parents_prog _ child day (by omega)]; rfl
theorem Ints_refl (l : List Int) (hl : l.length ≤ 2 ^ 40) : pensionplain_Ints l l = some true := by
  unfold pensionplain_Ints
  rw [if_neg (by simp)]
  refine loop_list (f := pensionplain_Ints_l l l) l (fun (_ : Unit) i => i) (fun _ _ => True) (fun o => o = some true) (by omega) ?_ ?_ () trivial
  · intro rec s i y hi hy _
    right
    unfold pensionplain_Ints_l
    rw [if_pos (by simp; omega), getI_ix hy, Option.bind_some, Option.bind_some, if_neg (by simp), idx_succ (by omega)]
    exact ⟨(), rfl, trivial⟩
  · intro rec s _
    unfold pensionplain_Ints_l
    rw [if_neg (by simp)]
theorem parF_len (l : List api_Fact) (child day : Int) : (parF l child day).length ≤ 99 := by
  unfold parF
  split
  · simp
  · have := List.length_filter_le (parB l child day) prs; rw [prs_len] at this; exact this
theorem awake24_true : pensionlaw24_awake = some true := by kernel_rfl
end Go.PL
