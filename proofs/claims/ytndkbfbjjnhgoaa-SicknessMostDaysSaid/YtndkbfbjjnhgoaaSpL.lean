/- Laws SicknessWaitingDays and SicknessMostDays. No program in sight. -/
import Derived.Test.YtndkbfbjjnhgoaaSpK
set_option linter.unusedVariables false
namespace Go.PL
open Go Go.Sort

theorem RClip_spec (a : List Span) (s : Span) (ha : a.length ≤ 2 ^ 40) : ∃ r, pensionref1_Clip a s = some r ∧ Nrm r ∧ ∀ x, InS r x ↔ (InS a x ∧ (s.From ≤ x ∧ x < s.To)) ∧ 0 ≤ x ∧ x < 73049 := by
  obtain ⟨r, h1, h2, h3⟩ := combine_spec a [s] 1 ha (by simp)
  refine ⟨r, by unfold pensionref1_Clip; rw [h1]; rfl, h2, fun x => ?_⟩
  rw [h3, fm1, Bool.and_eq_true, inB_iff, inB_iff, InS_one]
theorem RIntersect_spec (a b : List Span) (ha : a.length ≤ 2 ^ 40) (hb : b.length ≤ 2 ^ 40) : ∃ r, pensionref1_Intersect a b = some r ∧ Nrm r ∧ ∀ x, InS r x ↔ (InS a x ∧ InS b x) ∧ 0 ≤ x ∧ x < 73049 := by
  obtain ⟨r, h1, h2, h3⟩ := combine_spec a b 1 ha hb
  refine ⟨r, by unfold pensionref1_Intersect; rw [h1]; rfl, h2, fun x => ?_⟩
  rw [h3, fm1, Bool.and_eq_true, inB_iff, inB_iff]
/-- The first three sick days of a spell. -/
theorem waiting {z sp : List Span} (hF : Fit z sp) {y : Span} (hy : y ∈ sp) : ∃ z9 z10, pensionref1_Clip z y = some z9 ∧ pensionref1_Prefix z9 3 = some z10 ∧ Nrm z9 ∧ z10.length ≤ 73049 ∧ (∀ x, InS z9 x ↔ InS z x ∧ (y.From ≤ x ∧ x < y.To)) ∧
    ∀ x, InS z10 x ↔ InS z9 x ∧ wt z sp x = true := by
  have hzl := Nrm_len hF.nz
  obtain ⟨z9, e9, n9, m9⟩ := RClip_spec z y (by omega)
  have m9' : ∀ x, InS z9 x ↔ InS z x ∧ (y.From ≤ x ∧ x < y.To) := fun x => by
    rw [m9]; exact ⟨fun h => h.1, fun h => ⟨h, Nrm_InS hF.nz h.1⟩⟩
  obtain ⟨z10, e10, l10, m10⟩ := Prefix_spec n9 3 (by omega)
  refine ⟨z9, z10, e9, e10, n9, l10, m9', fun x => ?_⟩
  rw [m10]
  constructor
  · rintro ⟨h1, h2⟩
    have hx := (m9' x).1 h1
    have hr := Nrm_InS hF.nz hx.1
    refine ⟨h1, ?_⟩
    rw [wt_of hF.ns hy hx.2, ← cnt_part hF.nz m9' hr.1 (by omega)]
    simpa using h2
  · rintro ⟨h1, h2⟩
    have hx := (m9' x).1 h1
    have hr := Nrm_InS hF.nz hx.1
    refine ⟨h1, ?_⟩
    rw [wt_of hF.ns hy hx.2, ← cnt_part hF.nz m9' hr.1 (by omega)] at h2
    simpa using h2

set_option maxHeartbeats 1000000 in
theorem SicknessWaitingDays_true (l : List pensionlaw25_Raw) (from_ : Int) : pensionlaw25_SicknessWaitingDays l from_ = some true := by
  obtain ⟨f, h1, hl⟩ := List_total l from_
  obtain ⟨z, p, a1, hF, a3, a4, a5, np, mp⟩ := Payment f (by omega)
  have hzl := Nrm_len hF.nz
  have hsl := Nrm_len hF.ns
  have hpl := Nrm_len np
  obtain ⟨r, r1, r2, r3⟩ := Subtract_spec p z (by omega) (by omega)
  have hr : r = [] := Nrm_empty r2 fun x hx => by
    have := (r3 x).1 hx
    have h2 := pz_mem ((mp x).1 this.1.1)
    exact this.1.2 (inB_iff.1 h2.2.2.1)
  subst hr
  unfold pensionlaw25_SicknessWaitingDays
  simp only [h1, a1, a3, a4, awake_true, Normal_true np, r1, Option.bind_some, Bool.not_true, Bool.false_eq_true, if_false, List.length_nil, Int.natCast_zero, Int.lt_irrefl, decide_false]
  rw [Days_spec hF.nz, Option.bind_some]
  generalize spells z = sp at *
  refine loop_list (f := pensionlaw25_SicknessWaitingDays_l z sp p (cnt z 0 73049 : Int)) sp (fun (_ : Unit) i => i) (fun _ _ => True) (fun o => o = some true) (by omega) ?_ ?_ () trivial
  · intro rec s i y hi hy _
    right
    have hym := List.mem_of_getElem? hy
    obtain ⟨z9, z10, e9, e10, n9, l10, m9, m10⟩ := waiting hF hym
    have h9l := Nrm_len n9
    obtain ⟨z11, e11, n11, m11⟩ := RIntersect_spec p z10 (by omega) (by omega)
    have h11 : z11 = [] := Nrm_empty n11 fun x hx => by
      have hx := (m11 x).1 hx
      have q1 := pz_mem ((mp x).1 hx.1.1)
      have q2 := ((m10 x).1 hx.1.2).2
      rw [q1.2.2.2] at q2; cases q2
    subst h11
    unfold pensionlaw25_SicknessWaitingDays_l
    rw [if_pos (by simp; omega), getI_ix hy, Option.bind_some, e9, Option.bind_some, e10, Option.bind_some, e11, Option.bind_some, if_neg (by simp)]
    have hlast : (if decide ((cnt z 0 73049 : Int) ≤ 546) = true then Option.bind (pensionref1_Subtract z9 z10) fun z12 => Option.bind (pensionref1_Subtract z12 p) fun z13 => some (decide (0 < (z13.length : Int))) else some false) = some false := by
      by_cases hc : (cnt z 0 73049 : Int) ≤ 546
      · obtain ⟨z12, e12, n12, m12⟩ := Subtract_spec z9 z10 (by omega) (by omega)
        have h12l := Nrm_len n12
        obtain ⟨z13, e13, n13, m13⟩ := Subtract_spec z12 p (by omega) (by omega)
        have h13 : z13 = [] := Nrm_empty n13 fun x hx => by
          obtain ⟨⟨g1, g2⟩, g3⟩ := (m13 x).1 hx
          obtain ⟨⟨g4, g5⟩, _⟩ := (m12 x).1 g1
          refine g2 ((mp x).2 ((pz_iff (by omega)).2 ⟨g3, ?_, ?_, ?_⟩))
          · exact inB_iff.2 ((m9 x).1 g4).1
          · rw [← Bool.not_eq_true]; exact fun h => g5 ((m10 x).2 ⟨g4, h⟩)
          · have q1 := List.length_filter_le (fun y => decide (x - 1094 ≤ y)) (pz z sp x)
            have q2 := pz_few (z := z) (sp := sp) (d := x) g3.1
            have q3 := cnt_mono (z := z) (a := 0) (b := x + 1) (c := 73049) (by omega)
            rw [cnt_succ g3.1, inB_iff.2 ((m9 x).1 g4).1, if_pos rfl] at q3
            omega
        subst h13
        rw [if_pos (by simpa using hc), e12, Option.bind_some, e13, Option.bind_some]; rfl
      · rw [if_neg (by simpa using hc)]
    rw [hlast, Option.bind_some, if_neg (by simp), idx_succ (by omega)]
    exact ⟨(), rfl, trivial⟩
  · intro rec s _
    unfold pensionlaw25_SicknessWaitingDays_l
    rw [if_neg (by simp)]

theorem md_range (n : Int) {m : Int} (h0 : 0 < m) (h1 : m ≤ 1000000) : ∃ r, pensionplain_Mod n m = some r ∧ 0 ≤ r ∧ r < m := by
  unfold pensionplain_Mod pensionplain_Mod_j
  rw [remI_of (by omega), Option.bind_some]
  have a := Int.tmod_lt_of_pos n h0
  have b := Int.lt_tmod_of_pos n h0
  split
  · rename_i h
    simp only [decide_eq_true_eq] at h
    rw [i64_id (by omega) (by omega)]
    exact ⟨_, rfl, by omega, by omega⟩
  · rename_i h
    simp only [decide_eq_true_eq] at h
    exact ⟨_, rfl, by omega, by omega⟩
set_option maxHeartbeats 1000000 in
theorem SicknessMostDays_true (l : List pensionlaw25_Raw) (from_ n : Int) : pensionlaw25_SicknessMostDays l from_ n = some true := by
  obtain ⟨f, h1, hl⟩ := List_total l from_
  obtain ⟨z, p, a1, hF, a3, a4, a5, np, mp⟩ := Payment f (by omega)
  have hzl := Nrm_len hF.nz
  have hsl := Nrm_len hF.ns
  have hpl := Nrm_len np
  unfold pensionlaw25_SicknessMostDays
  simp only [h1, a1, a3, a4, awake_true, Option.bind_some, Bool.not_true, Bool.false_eq_true, if_false]
  rw [Days_spec hF.nz, Option.bind_some]
  generalize spells z = sp at *
  have hb := cnt_bound z (x := 73049) (Int.le_refl _)
  by_cases h0 : cnt z 0 73049 = 0
  · rw [if_pos (by simp [h0])]
    have : p = [] := Nrm_empty np fun x hx => by
      have q := pz_mem ((mp x).1 hx)
      have q3 := cnt_mono (z := z) (a := 0) (b := x + 1) (c := 73049) (by omega)
      rw [cnt_succ q.1, q.2.2.1, if_pos rfl] at q3
      omega
    subst this; rfl
  · rw [if_neg (by simp [h0])]
    obtain ⟨m, em, m0, m1⟩ := md_range n (m := (cnt z 0 73049 : Int)) (by omega) (by omega)
    obtain ⟨d, ed, hd⟩ := Nth_spec hF.nz m m0 m1
    have hdr := Nrm_InS hF.nz hd
    rw [em, Option.bind_some, ed, Option.bind_some]
    dsimp only
    rw [if_neg (by simp), i64_id (n := d - 1094) (by omega) (by omega)]
    obtain ⟨z9, e9, n9, m9⟩ := RClip_spec p (⟨d - 1094, d⟩ : Span) (by omega)
    dsimp only at m9
    have m9' : ∀ x, InS z9 x ↔ InS p x ∧ (d - 1094 ≤ x ∧ x < d) := fun x => by
      rw [m9]; exact ⟨fun h => h.1, fun h => ⟨h, Nrm_InS np h.1⟩⟩
    rw [e9, Option.bind_some, Days_spec n9, Option.bind_some]
    have hz10 : cnt z9 0 73049 = ((pz z sp d).filter (fun y => decide (d - 1094 ≤ y))).length := by
      have e1 : cnt z9 0 73049 = cnt z9 0 d := cnt_skip (by omega) fun x g1 g2 => by
        rw [inB_false, m9']; rintro ⟨_, _, h⟩; omega
      rw [e1, cnt_part np m9' hdr.1 (Int.le_refl _), pz_cnt mp np hdr.1 (by omega)]
    have hwin := pz_win (z := z) (sp := sp) hdr.1
    rw [hz10]
    generalize hF' : ((pz z sp d).filter (fun y => decide (d - 1094 ≤ y))).length = W at hwin
    rw [if_neg (by simp; omega)]
    have hsp := hF.ns
    refine loop_list (f := pensionlaw25_SicknessMostDays_l z sp p (d, true) (W : Int)) sp (fun (b : Bool) i => (b, i)) (fun b i => b = (sp.take i).any (fun s => (decide (s.From ≤ d) && decide (d < s.To)) && decide (cnt z s.From d < 3))) (fun o => o = some true) (by omega) ?_ ?_ false (by simp)
    · rintro rec b i y hi hy rfl
      right
      have hym := List.mem_of_getElem? hy
      obtain ⟨q9, q10, f9, f10, k9, l10, w9, w10⟩ := waiting hF hym
      refine ⟨_, ?_, rfl⟩
      unfold pensionlaw25_SicknessMostDays_l
      dsimp only
      have hstep : (sp.take (i + 1)).any (fun s => (decide (s.From ≤ d) && decide (d < s.To)) && decide (cnt z s.From d < 3)) = ((sp.take i).any (fun s => (decide (s.From ≤ d) && decide (d < s.To)) && decide (cnt z s.From d < 3)) || ((decide (y.From ≤ d) && decide (d < y.To)) && decide (cnt z y.From d < 3))) := by
        rw [take_ix hy, List.any_append]; simp
      have hin : inB q10 d = ((decide (y.From ≤ d) && decide (d < y.To)) && decide (cnt z y.From d < 3)) := by
        rw [Bool.eq_iff_iff, inB_iff, w10, w9]
        simp only [Bool.and_eq_true, decide_eq_true_eq]
        constructor
        · rintro ⟨⟨_, g1⟩, g2⟩
          rw [wt_of hsp hym g1] at g2
          exact ⟨g1, by simpa using g2⟩
        · rintro ⟨g1, g2⟩
          exact ⟨⟨hd, g1⟩, by rw [wt_of hsp hym g1]; simpa using g2⟩
      have hv : (decide (0 ≤ d) && decide (d ≤ 73048)) = true := by simp; omega
      rw [if_pos (by simp; omega), getI_ix hy, Option.bind_some, f9, Option.bind_some, f10, Option.bind_some, Contains_spec q10 d (by omega), Option.bind_some, hv, Bool.and_true, hin, ite_or, Option.bind_some, idx_succ (by omega), hstep]
    · rintro rec b rfl
      unfold pensionlaw25_SicknessMostDays_l
      dsimp only
      have hv : (decide (0 ≤ d) && decide (d ≤ 73048)) = true := by simp; omega
      have hw : (sp.take sp.length).any (fun s => (decide (s.From ≤ d) && decide (d < s.To)) && decide (cnt z s.From d < 3)) = wt z sp d := by rw [List.take_length]; rfl
      rw [if_neg (by simp), Contains_spec p d (by omega), Option.bind_some, hv, Bool.and_true, hw]
      have hfin : inB p d = ((!wt z sp d) && decide ((W : Int) < 546)) := by
        rw [Bool.eq_iff_iff, inB_iff, mp, pz_iff (by omega), hF']
        simp only [Bool.and_eq_true, Bool.not_eq_true', decide_eq_true_eq]
        constructor
        · rintro ⟨_, _, g1, g2⟩; exact ⟨g1, by omega⟩
        · rintro ⟨g1, g2⟩; exact ⟨by omega, inB_iff.2 hd, g1, by omega⟩
      rw [hfin]; simp
end Go.PL
