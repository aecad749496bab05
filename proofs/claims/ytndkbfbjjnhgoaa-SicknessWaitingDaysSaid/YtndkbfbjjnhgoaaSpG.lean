/- The spells of sickness; laws SicknessSpellsAgree and SicknessSpellsAreApart. No program in sight. -/
import Derived.Test.YtndkbfbjjnhgoaaSpF
set_option linter.unusedVariables false
namespace Go.PL
open Go Go.Sort

def spStep (s : List Span) (y : Span) : List Span := match s.getLast? with
  | none => [y]
  | some t => if y.From - t.To ≤ 56 then s.dropLast ++ [⟨t.From, y.To⟩] else s ++ [y]
theorem spStep_nil (y : Span) : spStep [] y = [y] := rfl
theorem spStep_snoc (a : List Span) (t y : Span) : spStep (a ++ [t]) y = if y.From - t.To ≤ 56 then a ++ [(⟨t.From, y.To⟩ : Span)] else a ++ [t] ++ [y] := by
  unfold spStep; simp
/-- What the spells of a list are. -/
def Spl (s p : List Span) : Prop := Nrm s ∧ s.Pairwise (fun a b => a.To + 56 < b.From) ∧ (∀ x, InS p x → InS s x) ∧ (s = [] ↔ p = []) ∧ ∀ t ∈ s.getLast?, ∃ u ∈ p.getLast?, t.To = u.To
theorem spStep_ok {s p : List Span} {y : Span} (h : Spl s p) (hn : Nrm (p ++ [y])) : Spl (spStep s y) (p ++ [y]) := by
  obtain ⟨h1, h2, h3, h4, h5⟩ := h
  obtain ⟨n1, n2, n3⟩ := Nrm_snoc.1 hn
  rcases ends s with rfl | ⟨a, t, rfl⟩
  · rw [spStep_nil]
    have := h4.1 rfl
    subst this
    refine ⟨hn, List.pairwise_singleton _ _, fun x h => h, by simp, fun t ht => ⟨y, by simp, ?_⟩⟩
    simp at ht; rw [ht]
  · obtain ⟨m1, m2, m3⟩ := Nrm_snoc.1 h1
    obtain ⟨g1, g2, g3⟩ := List.pairwise_append.1 h2
    obtain ⟨u, hu, htu⟩ := h5 t (by simp)
    have hup : u ∈ p := List.mem_of_getLast? hu
    have := n2 u hup
    rw [spStep_snoc]
    by_cases hc : y.From - t.To ≤ 56
    · rw [if_pos hc]
      refine ⟨Nrm_snoc.2 ⟨m1, m2, m3.1, by dsimp only; omega, n3.2.2⟩, ?_, fun x hx => ?_, by simp, fun v hv => ⟨y, by simp, ?_⟩⟩
      · rw [List.pairwise_append]
        refine ⟨g1, List.pairwise_singleton _ _, fun v hv w hw => ?_⟩
        rw [List.mem_singleton] at hw; subst hw
        exact g3 v hv t (List.mem_singleton.2 rfl)
      · rw [InS_app, InS_one] at hx
        rw [InS_app, InS_one]
        dsimp only
        rcases hx with hx | hx
        · have := h3 x hx
          rw [InS_app, InS_one] at this
          rcases this with h | h
          · exact .inl h
          · exact .inr (by omega)
        · exact .inr (by omega)
      · simp at hv; rw [← hv]
    · rw [if_neg hc]
      refine ⟨Nrm_snoc.2 ⟨h1, fun v hv => ?_, n3⟩, ?_, fun x hx => ?_, by simp, fun v hv => ⟨y, by simp, ?_⟩⟩
      · rcases List.mem_append.1 hv with h | h
        · have := m2 v h; omega
        · rw [List.mem_singleton] at h; subst h; omega
      · rw [List.pairwise_append]
        refine ⟨h2, List.pairwise_singleton _ _, fun v hv w hw => ?_⟩
        rw [List.mem_singleton] at hw; subst hw
        rcases List.mem_append.1 hv with h | h
        · have := m2 v h; omega
        · rw [List.mem_singleton] at h; subst h; omega
      · rw [InS_app, InS_one] at hx
        rw [InS_app (a := a ++ [t]), InS_one]
        rcases hx with hx | hx
        · exact .inl (h3 x hx)
        · exact .inr hx
      · simp at hv; rw [← hv]
theorem Nrm_take {l : List Span} (h : Nrm l) (i : Nat) : Nrm (l.take i) := ⟨fun s hs => h.1 s (List.mem_of_mem_take hs), h.2.sublist (List.take_sublist i l)⟩
def spells (z : List Span) : List Span := z.foldl spStep []
theorem Spl_take {z : List Span} (hz : Nrm z) : ∀ i, i ≤ z.length → Spl ((z.take i).foldl spStep []) (z.take i)
  | 0, _ => by
    simp only [List.take_zero, List.foldl_nil]
    exact ⟨Nrm_nil, .nil, fun x h => h, Iff.rfl, fun t h => (by cases h)⟩
  | i + 1, h => by
    obtain ⟨y, hy⟩ : ∃ y, z[i]? = some y := ⟨_, List.getElem?_eq_getElem h⟩
    rw [foldl_take hy]
    have := Nrm_take hz (i + 1)
    rw [take_ix hy] at this ⊢
    exact spStep_ok (Spl_take hz i (by omega)) this
theorem spells_ok {z : List Span} (hz : Nrm z) : Spl (spells z) z := by
  have := Spl_take hz z.length (Nat.le_refl _)
  rw [List.take_length] at this; exact this
theorem spells_prog {z : List Span} (hz : Nrm z) : loopC FU (sickness_Spells_l z) ([], 0) = some (spells z) := by
  have hl := Nrm_len hz
  refine loop_list (f := sickness_Spells_l z) z (fun s i => (s, i)) (fun s i => s = (z.take i).foldl spStep []) (fun o => o = some (spells z)) (by omega) ?_ ?_ [] (by simp)
  · rintro rec s i y hi hy rfl
    right
    have hS := Spl_take hz i (by omega)
    refine ⟨(z.take (i + 1)).foldl spStep [], ?_, rfl⟩
    rw [foldl_take hy]
    generalize (z.take i).foldl spStep [] = s at hS
    have hsl := Nrm_len hS.1
    have hyr := hz.1 y (List.mem_of_getElem? hy)
    unfold sickness_Spells_l sickness_Spells_j
    dsimp only
    rw [if_pos (by simp; omega), getI_ix hy, Option.bind_some, idx_succ (by omega)]
    rcases ends s with rfl | ⟨a, t, rfl⟩
    · rw [if_neg (by simp), Option.bind_some, if_neg (by simp), appI_of (by simp), Option.bind_some]; rfl
    · have hal : a.length < 2 ^ 62 := by simp at hsl; omega
      have ht := (Nrm_snoc.1 hS.1).2.2
      rw [if_pos (by simp), last_ix a t hal, Option.bind_some, Option.bind_some, spStep_snoc, i64_id (by omega) (by omega)]
      by_cases hc : y.From - t.To ≤ 56
      · rw [if_pos (by simpa using hc), if_pos hc, Option.bind_some, last_set a t _ hal]
      · rw [if_neg (by simpa using hc), if_neg hc, appI_of (by simp at hsl ⊢; omega), Option.bind_some]
  · rintro rec s rfl
    unfold sickness_Spells_l
    dsimp only
    rw [if_neg (by simp), List.take_length]; rfl
theorem spells_ref {z : List Span} (hz : Nrm z) : loopC FU (pensionref21_Spells_l z) ([], 0) = some (spells z) := by
  have hl := Nrm_len hz
  refine loop_list (f := pensionref21_Spells_l z) z (fun s i => (s, i)) (fun s i => s = (z.take i).foldl spStep []) (fun o => o = some (spells z)) (by omega) ?_ ?_ [] (by simp)
  · rintro rec s i y hi hy rfl
    right
    have hS := Spl_take hz i (by omega)
    refine ⟨(z.take (i + 1)).foldl spStep [], ?_, rfl⟩
    rw [foldl_take hy]
    generalize (z.take i).foldl spStep [] = s at hS
    have hsl := Nrm_len hS.1
    have hyr := hz.1 y (List.mem_of_getElem? hy)
    unfold pensionref21_Spells_l pensionref21_Spells_j
    dsimp only
    rw [if_pos (by simp; omega), getI_ix hy]
    simp only [Option.bind_some]
    rw [idx_succ (by omega)]
    rcases ends s with rfl | ⟨a, t, rfl⟩
    · rw [if_neg (by simp), Option.bind_some, if_neg (by simp), appI_of (by simp), Option.bind_some]; rfl
    · have hal : a.length < 2 ^ 62 := by simp at hsl; omega
      have ht := (Nrm_snoc.1 hS.1).2.2
      rw [if_pos (by simp), last_ix a t hal, Option.bind_some, Option.bind_some, spStep_snoc, i64_id (by omega) (by omega)]
      by_cases hc : y.From - t.To ≤ 56
      · rw [if_pos (by simpa using hc), if_pos hc, Option.bind_some, last_set a t _ hal]
      · rw [if_neg (by simpa using hc), if_neg hc, appI_of (by simp at hsl ⊢; omega), Option.bind_some]
  · rintro rec s rfl
    unfold pensionref21_Spells_l
    dsimp only
    rw [if_neg (by simp), List.take_length]; rfl
/-- What both say of a person's sick days and spells. -/
theorem Sickness (l : List api_Fact) (hl : l.length ≤ 2 ^ 30) : ∃ z, sickness_Sick l = some z ∧ pensionref21_Sick l = some z ∧ Nrm z ∧ sickness_Spells l = some (spells z) ∧ pensionref21_Spells l = some (spells z) ∧ Spl (spells z) z := by
  obtain ⟨z, h1, h2, h3⟩ := Sick_agree l hl
  refine ⟨z, h1, h2, h3, ?_, ?_, spells_ok h3⟩
  · unfold sickness_Spells; rw [h1, Option.bind_some]; exact spells_prog h3
  · unfold pensionref21_Spells; rw [h2, Option.bind_some]; exact spells_ref h3

theorem SicknessSpellsAgree_true (l : List pensionlaw25_Raw) (from_ : Int) (k : List pensionhand_Fact) : pensionlaw25_SicknessSpellsAgree l from_ k = some true := by
  obtain ⟨z, h1, hl⟩ := List_total l from_
  obtain ⟨z2, h2, hl2⟩ := Facts_total k
  obtain ⟨z3, h3, hl3⟩ := Of_total z2 1 (by omega)
  obtain ⟨s, a1, a2, a3, a4, a5, a6⟩ := Sickness z (by omega)
  obtain ⟨t, b1, b2, b3, b4, b5, b6⟩ := Sickness z3 (by omega)
  have e1 := Same_refl s (by have := Nrm_len a3; omega)
  have e2 := Same_refl (spells s) (by have := Nrm_len a6.1; omega)
  have e3 := Same_refl t (by have := Nrm_len b3; omega)
  have e4 := Same_refl (spells t) (by have := Nrm_len b6.1; omega)
  unfold pensionlaw25_SicknessSpellsAgree
  simp only [h1, h2, h3, awake_true, a1, a2, a4, a5, b1, b2, b4, b5, e1, e2, e3, e4, Option.bind_some, if_true]

theorem Normal_true {l : List Span} (h : Nrm l) : pensionref1_Normal l = some true := by
  have hl := Nrm_len h
  unfold pensionref1_Normal
  refine loop_list (f := pensionref1_Normal_l l) l (fun (_ : Unit) i => i) (fun _ _ => True) (fun o => o = some true) (by omega) ?_ ?_ () trivial
  · intro rec s i y hi hy _
    right
    have hyr := h.1 y (List.mem_of_getElem? hy)
    unfold pensionref1_Normal_l
    rw [if_pos (by simp; omega), getI_ix hy]
    simp only [Option.bind_some]
    rw [if_neg (by simp; omega), Option.bind_some, if_neg (by simp; omega), Option.bind_some]
    rw [show decide (73049 < y.To) = false by simp; omega]
    have hpre : (if decide (0 < (i : Int)) = true then Option.bind (getI l (i64 ((i : Int) - 1))) fun y5 => some (decide (y.From ≤ y5.To)) else some false) = some false := by
      by_cases h0 : i = 0
      · subst h0; rw [if_neg (by simp)]
      · obtain ⟨j, rfl⟩ : ∃ j, i = j + 1 := ⟨i - 1, by omega⟩
        obtain ⟨u, hu⟩ : ∃ u, l[j]? = some u := ⟨_, List.getElem?_eq_getElem (by omega)⟩
        have ei : i64 (((j + 1 : Nat) : Int) - 1) = (j : Int) := by rw [i64_id (by omega) (by omega)]; omega
        rw [if_pos (by simp), ei, getI_ix hu, Option.bind_some]
        have := Nrm_take h (j + 1 + 1)
        rw [take_ix hy] at this
        have := (Nrm_snoc.1 this).2.1 u (by rw [take_ix hu]; simp)
        rw [show decide (y.From ≤ u.To) = false by simp; omega]
    rw [hpre]
    simp only [Option.bind_some, Bool.false_eq_true, if_false]
    rw [idx_succ (by omega)]
    exact ⟨(), rfl, trivial⟩
  · intro rec s _
    unfold pensionref1_Normal_l
    rw [if_neg (by simp)]
theorem Nrm_empty {l : List Span} (h : Nrm l) (hx : ∀ x, ¬ InS l x) : l = [] := Nrm_uniq h Nrm_nil fun x => ⟨fun h => absurd h (hx x), fun h => absurd h InS_nil⟩
theorem fm3 (u v : Bool) : fm 3 u v = (u && !v) := by unfold fm; simp
theorem fm1 (u v : Bool) : fm 1 u v = (u && v) := by unfold fm; simp
theorem Subtract_spec (a b : List Span) (ha : a.length ≤ 2 ^ 40) (hb : b.length ≤ 2 ^ 40) :
    ∃ r, pensionref1_Subtract a b = some r ∧ Nrm r ∧ ∀ x, InS r x ↔ (InS a x ∧ ¬ InS b x) ∧ 0 ≤ x ∧ x < 73049 := by
  obtain ⟨r, h1, h2, h3⟩ := combine_spec a b 3 ha hb
  refine ⟨r, by unfold pensionref1_Subtract; rw [h1]; rfl, h2, fun x => ?_⟩
  rw [h3, fm3, Bool.and_eq_true, inB_iff, Bool.not_eq_true', ← Bool.not_eq_true, inB_iff]
theorem SicknessSpellsAreApart_true (l : List pensionlaw25_Raw) (from_ : Int) : pensionlaw25_SicknessSpellsAreApart l from_ = some true := by
  obtain ⟨z, h1, hl⟩ := List_total l from_
  obtain ⟨s, a1, a2, a3, a4, a5, n, g, c, e, _⟩ := Sickness z (by omega)
  have hsl := Nrm_len a3
  have hpl := Nrm_len n
  obtain ⟨r, r1, r2, r3⟩ := Subtract_spec s (spells s) (by omega) (by omega)
  have hr : r = [] := Nrm_empty r2 fun x hx => by
    have := (r3 x).1 hx
    exact this.1.2 (c x this.1.1)
  subst hr
  unfold pensionlaw25_SicknessSpellsAreApart
  simp only [h1, a1, a4, awake_true, Normal_true a3, Normal_true n, r1, Option.bind_some, Bool.not_true, Bool.false_eq_true, if_false, List.length_nil, Int.natCast_zero, Int.lt_irrefl, decide_false]
  generalize spells s = p at *
  refine loopC_FU (f := pensionlaw25_SicknessSpellsAreApart_l s p) (fun st => ∃ k : Nat, st = (k : Int) ∧ 1 ≤ k) (fun st => p.length - st.toNat) (fun r => r = true) ⟨1, rfl, Nat.le_refl _⟩ (by omega) ?_ |>.elim fun r h => ?_
  · rintro st rec ⟨k, rfl, hk⟩
    unfold pensionlaw25_SicknessSpellsAreApart_l
    by_cases hc : k < p.length
    · right
      obtain ⟨y, hy⟩ : ∃ u, p[k]? = some u := ⟨_, List.getElem?_eq_getElem (by omega)⟩
      obtain ⟨j, rfl⟩ : ∃ j, k = j + 1 := ⟨k - 1, by omega⟩
      obtain ⟨u, hu⟩ : ∃ u, p[j]? = some u := ⟨_, List.getElem?_eq_getElem (by omega)⟩
      have ei : i64 (((j + 1 : Nat) : Int) - 1) = (j : Int) := by rw [i64_id (by omega) (by omega)]; omega
      have hyr := n.1 y (List.mem_of_getElem? hy)
      have hur := n.1 u (List.mem_of_getElem? hu)
      have hg : u.To + 56 < y.From := by
        have := g.sublist (List.take_sublist (j + 1 + 1) p)
        rw [take_ix hy, List.pairwise_append] at this
        exact this.2.2 u (by rw [take_ix hu]; simp) y (List.mem_singleton.2 rfl)
      rw [if_pos (by simp; omega), getI_ix hy, Option.bind_some, ei, getI_ix hu, Option.bind_some, i64_id (n := y.From - u.To) (by omega) (by omega), if_neg (by simp; omega), idx_succ (by omega)]
      exact ⟨_, rfl, ⟨j + 1 + 1, rfl, by omega⟩, by simp only [Int.toNat_natCast]; omega⟩
    · left
      rw [if_neg (by simp; omega)]
      refine ⟨_, rfl, ?_⟩
      have e1 : s.length = 0 ↔ p.length = 0 := by rw [List.length_eq_zero_iff, List.length_eq_zero_iff]; exact e.symm
      rw [beq_iff_eq, Bool.eq_iff_iff, beq_iff_eq, beq_iff_eq]; omega
  · obtain ⟨h, rfl⟩ := h; exact h
end Go.PL
