/- Law SicknessPayableAgrees: program and reference pay the same days. No program in sight. -/
import Derived.Test.YtndkbfbjjnhgoaaSpI
set_option linter.unusedVariables false
namespace Go.PL
open Go Go.Sort

set_option maxHeartbeats 2000000 in
theorem Payable_ref {z sp : List Span} (hF : Fit z sp) : ∃ r, loopC FU (pensionref21_Payable_l z sp) ([], [], 0, 0, 0, 0) = some r ∧ Nrm r ∧ ∀ x, InS r x ↔ x ∈ pz z sp 73049 := by
  have hzl := Nrm_len hF.nz
  refine loop_list (f := pensionref21_Payable_l z sp) z (fun (s : List Span × List Int × Int × Int × Int) i => (s.1, s.2.1, s.2.2.1, s.2.2.2.1, s.2.2.2.2, i))
    (fun s i => ∃ c, 0 ≤ c ∧ c ≤ 73049 ∧ RelR z sp c s.1 s.2.1 s.2.2.1 s.2.2.2.1 s.2.2.2.2 ∧ (∀ t ∈ z.take i, t.To ≤ c) ∧ ∀ t ∈ z.drop i, c ≤ t.From)
    (fun o => ∃ r, o = some r ∧ Nrm r ∧ ∀ x, InS r x ↔ x ∈ pz z sp 73049) (by omega) ?_ ?_ ([], [], 0, 0, 0) ⟨0, by omega, by omega, ⟨Nrm_nil, fun d => ⟨fun h => absurd h InS_nil, fun h => (by cases h)⟩, rfl, 0, 0, rfl, rfl, Nat.zero_le _, Nat.zero_le _, fun x h => (by cases h), fun t h => by simp at h, fun s hs => ?_⟩, fun t h => by simp at h, fun t h => (hF.nz.1 t (by simpa using h)).1⟩
  · rintro rec ⟨x7, x8, x9, x10, x11⟩ i y hi hy ⟨c, c0, c1, c2, c3, c4⟩
    right
    have hym : y ∈ z := List.mem_of_getElem? hy
    have hyr := hF.nz.1 y hym
    have hcy : c ≤ y.From := c4 y (by rw [drop_ix hy]; exact List.mem_cons_self ..)
    have hno : ∀ d, c ≤ d → d < y.From → inB z d = false := by
      intro d h1 h2
      rw [inB_false]
      rintro ⟨t, ht, g1, g2⟩
      rcases mem_split hy ht with h' | h' | h'
      · have := c3 t h'; omega
      · subst h'; omega
      · have := (pairs_take hF.nz.2 hy).2 t h'; omega
    have c2' : RelR z sp y.From x7 x8 x9 x10 x11 := c2.skip c0 hcy hno
    have key : ∃ s' : List Span × List Int × Int × Int × Int, loopC FU (pensionref21_Payable_l2 z sp (i : Int) rec) (x7, x8, x9, x10, x11, y.From) = rec (s'.1, s'.2.1, s'.2.2.1, s'.2.2.2.1, s'.2.2.2.2, ((i + 1 : Nat) : Int)) ∧ RelR z sp y.To s'.1 s'.2.1 s'.2.2.1 s'.2.2.2.1 s'.2.2.2.2 := by
      refine loopC_innerFU (f := pensionref21_Payable_l2 z sp (i : Int) rec) (fun st => ∃ x7 x8 x9 x10 x11 day, st = (x7, x8, x9, x10, x11, day) ∧ y.From ≤ day ∧ day ≤ y.To ∧ RelR z sp day x7 x8 x9 x10 x11) (fun st => (y.To - st.2.2.2.2.2).toNat)
        (fun o => ∃ s' : List Span × List Int × Int × Int × Int, o = rec (s'.1, s'.2.1, s'.2.2.1, s'.2.2.2.1, s'.2.2.2.2, ((i + 1 : Nat) : Int)) ∧ RelR z sp y.To s'.1 s'.2.1 s'.2.2.1 s'.2.2.2.1 s'.2.2.2.2) ⟨x7, x8, x9, x10, x11, y.From, rfl, by omega, by omega, c2'⟩ (by dsimp only; omega) ?_
      rintro st rec2 ⟨x7, x8, x9, x10, x11, day, rfl, d1, d2, hR⟩
      unfold pensionref21_Payable_l2
      dsimp only
      rw [getI_ix hy, Option.bind_some]
      by_cases hc : day < y.To
      · right
        rw [if_pos (by simpa using hc)]
        obtain ⟨y7, y8, y9, y10, y11, e, hR'⟩ := ref_day hF (day := day) (inB_iff.2 ⟨y, hym, d1, hc⟩) rec2 x7 x8 x9 x10 x11 hR
        exact ⟨_, e, ⟨_, _, _, _, _, _, rfl, by omega, by omega, hR'⟩, by dsimp only; omega⟩
      · left
        rw [if_neg (by simpa using hc), idx_succ (by omega)]
        have : day = y.To := by omega
        subst this
        exact ⟨(x7, x8, x9, x10, x11), rfl, hR⟩
    obtain ⟨s', e1, e2⟩ := key
    refine ⟨s', ?_, y.To, by omega, by omega, e2, fun t ht => ?_, fun t ht => ?_⟩
    · unfold pensionref21_Payable_l
      dsimp only
      rw [if_pos (by simp; omega), getI_ix hy, Option.bind_some, e1]
    · rw [take_ix hy] at ht
      rcases List.mem_append.1 ht with h | h
      · have := (pairs_take hF.nz.2 hy).1 t h; omega
      · rw [List.mem_singleton] at h; subst h; exact Int.le_refl _
    · have := (pairs_take hF.nz.2 hy).2 t ht; omega
  · rintro rec ⟨x7, x8, x9, x10, x11⟩ ⟨c, c0, c1, c2, c3, c4⟩
    rw [List.take_length] at c3
    have hlast : RelR z sp 73049 x7 x8 x9 x10 x11 := c2.skip (d := 73049) c0 c1 fun d h1 h2 => by
      rw [inB_false]
      rintro ⟨t, ht, g1, g2⟩
      have := c3 t ht; omega
    unfold pensionref21_Payable_l
    dsimp only
    rw [if_neg (by simp)]
    exact ⟨x7, rfl, hlast.1, hlast.2.1⟩
  · refine ⟨?_, fun d h1 h2 => ?_⟩
    · rw [cnt_le (by
        have := (hF.ns.1 s (List.mem_of_getElem? hs)).1
        exact this)]; rfl
    · have := (Nrm_InS hF.nz (inB_iff.1 h2)).1; omega
/-- What both say of a person's sick days, spells and paid days. -/
theorem Payment (l : List api_Fact) (hl : l.length ≤ 2 ^ 30) : ∃ z p, sickness_Sick l = some z ∧ Fit z (spells z) ∧ sickness_Spells l = some (spells z) ∧ sickness_Payable l = some p ∧ pensionref21_Payable l = some p ∧ Nrm p ∧ ∀ x, InS p x ↔ x ∈ pz z (spells z) 73049 := by
  obtain ⟨z, h1, h2, h3, h4, h5, h6⟩ := Sickness l hl
  have hF : Fit z (spells z) := ⟨h3, h6.1, h6.2.2.1⟩
  obtain ⟨p, a1, a2, a3⟩ := Payable_prog hF
  obtain ⟨q, b1, b2, b3⟩ := Payable_ref hF
  have : q = p := Nrm_uniq b2 a2 fun x => by rw [a3, b3]
  subst this
  refine ⟨z, q, h1, hF, h4, ?_, ?_, a2, a3⟩
  · unfold sickness_Payable; rw [h1, Option.bind_some, h4, Option.bind_some]; exact a1
  · unfold pensionref21_Payable; rw [h2, Option.bind_some, h5, Option.bind_some]; exact b1
theorem SicknessPayableAgrees_true (l : List pensionlaw25_Raw) (from_ : Int) (k : List pensionhand_Fact) : pensionlaw25_SicknessPayableAgrees l from_ k = some true := by
  obtain ⟨z, h1, hl⟩ := List_total l from_
  obtain ⟨z2, h2, hl2⟩ := Facts_total k
  obtain ⟨z3, h3, hl3⟩ := Of_total z2 1 (by omega)
  obtain ⟨s, p, a1, a2, a3, a4, a5, a6, a7⟩ := Payment z (by omega)
  obtain ⟨t, q, b1, b2, b3, b4, b5, b6, b7⟩ := Payment z3 (by omega)
  have e1 := Same_refl p (by have := Nrm_len a6; omega)
  have e2 := Same_refl q (by have := Nrm_len b6; omega)
  unfold pensionlaw25_SicknessPayableAgrees
  simp only [h1, h2, h3, awake_true, a4, a5, b4, b5, e1, e2, Option.bind_some, if_true]
end Go.PL
