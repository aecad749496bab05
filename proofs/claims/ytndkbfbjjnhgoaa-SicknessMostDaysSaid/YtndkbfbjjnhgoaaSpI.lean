/- sickness.Payable and pensionref21.Payable: both pay the days of the law of days. No program in sight. -/
import Derived.Test.YtndkbfbjjnhgoaaSpH
set_option linter.unusedVariables false
namespace Go.PL
open Go Go.Sort

/-- The sick days and the spells fit. -/
structure Fit (z sp : List Span) : Prop where
  nz : Nrm z
  ns : Nrm sp
  cov : ∀ x, InS z x → InS sp x
theorem pairs_take {l : List Span} (h : l.Pairwise (fun a b => a.To < b.From)) {i : Nat} {y : Span} (hy : l[i]? = some y) : (∀ s ∈ l.take i, s.To < y.From) ∧ ∀ s ∈ l.drop (i + 1), y.To < s.From := by
  have e := List.take_append_drop i l
  rw [drop_ix hy] at e
  rw [← e, List.pairwise_append] at h
  exact ⟨fun s hs => h.2.2 s hs y (List.mem_cons_self ..), (List.pairwise_cons.1 h.2.1).1⟩
theorem mem_split {α : Type} {l : List α} {i : Nat} {y : α} (hy : l[i]? = some y) {s : α} (hs : s ∈ l) : s ∈ l.take i ∨ s = y ∨ s ∈ l.drop (i + 1) := by
  have e := List.take_append_drop i l
  rw [drop_ix hy] at e
  rw [← e] at hs
  rcases List.mem_append.1 hs with h | h
  · exact .inl h
  · rcases List.mem_cons.1 h with h | h
    · exact .inr (.inl h)
    · exact .inr (.inr h)
set_option maxHeartbeats 2000000 in
/-- One spell. -/
theorem pay_spell {z sp : List Span} (hF : Fit z sp) {y : Span} (hy : y ∈ sp) {z3 : List Span} (n3 : Nrm z3) (m3 : ∀ x, InS z3 x ↔ InS z x ∧ (y.From ≤ x ∧ x < y.To) ∧ 0 ≤ x ∧ x < 73049) (x : Nat) (hx : x < 2 ^ 40)
    (rec : ((List Span) × Int × sickness_window) → Option (List Span)) (out : List Span) (v : sickness_window) (hR : RelP z sp y.From out v) :
    ∃ out' v', loopC FU (sickness_Payable_l2 (x : Int) rec z3) (out, 3, 0, v) = rec (out', ((x + 1 : Nat) : Int), v') ∧ RelP z sp y.To out' v' := by
  have hyr := hF.ns.1 y hy
  have hl3 := Nrm_len n3
  refine loop_list (f := sickness_Payable_l2 (x : Int) rec z3) z3 (fun (s : List Span × Int × sickness_window) i => (s.1, s.2.1, i, s.2.2))
    (fun s i => ∃ c, y.From ≤ c ∧ c ≤ y.To ∧ RelP z sp c s.1 s.2.2 ∧ s.2.1 = 3 - min 3 (cnt z y.From c : Int) ∧ (∀ t ∈ z3.take i, t.To ≤ c) ∧ ∀ t ∈ z3.drop i, c ≤ t.From)
    (fun o => ∃ out' v', o = rec (out', ((x + 1 : Nat) : Int), v') ∧ RelP z sp y.To out' v') (by omega) ?_ ?_ (out, 3, v) ⟨y.From, by omega, by omega, hR, by rw [cnt_le (Int.le_refl _)]; rfl, fun t h => by simp at h, fun t h => ?_⟩
  · rintro rc ⟨out, wait, v⟩ i s hi hs ⟨c, c1, c2, c3, c4, c5, c6⟩
    right
    have hsm : s ∈ z3 := List.mem_of_getElem? hs
    have hsr := n3.1 s hsm
    have hin : ∀ d, s.From ≤ d → d < s.To → inB z d = true ∧ y.From ≤ d ∧ d < y.To := fun d h1 h2 => by
      have := (m3 d).1 ⟨s, hsm, h1, h2⟩
      exact ⟨inB_iff.2 this.1, this.2.1⟩
    have b0 := hin s.From (by omega) (by omega)
    have b1 := hin (s.To - 1) (by omega) (by omega)
    have hcs : c ≤ s.From := c6 s (by rw [drop_ix hs]; exact List.mem_cons_self ..)
    have hno : ∀ d, c ≤ d → d < s.From → inB z d = false := by
      intro d h1 h2
      rw [inB_false]
      intro h
      obtain ⟨t, ht, g1, g2⟩ := (m3 d).2 ⟨h, ⟨by omega, by omega⟩, by omega, by omega⟩
      rcases mem_split hs ht with h' | h' | h'
      · have := c5 t h'; omega
      · subst h'; omega
      · have := (pairs_take n3.2 hs).2 t h'; omega
    obtain ⟨out', wait', v', e1, e2, e3⟩ := pay_days (s := s) hF.ns hy (by omega) (by omega) hsr.2.1 (fun d h1 h2 => (hin d h1 h2).1) (i : Int) rc out wait v (c3.skip (by omega) hcs hno) (by rw [cnt_skip hcs hno]; exact c4)
    refine ⟨(out', wait', v'), ?_, s.To, by omega, by omega, e2, e3, fun t ht => ?_, fun t ht => ?_⟩
    · unfold sickness_Payable_l2
      dsimp only
      rw [if_pos (by simp; omega), getI_ix hs, Option.bind_some, e1, idx_succ (by omega)]
    · rw [take_ix hs] at ht
      rcases List.mem_append.1 ht with h | h
      · have := (pairs_take n3.2 hs).1 t h; omega
      · rw [List.mem_singleton] at h; subst h; exact Int.le_refl _
    · have := (pairs_take n3.2 hs).2 t ht; omega
  · rintro rc ⟨out, wait, v⟩ ⟨c, c1, c2, c3, c4, c5, c6⟩
    rw [List.take_length] at c5
    unfold sickness_Payable_l2
    dsimp only
    rw [if_neg (by simp), idx_succ (by omega)]
    refine ⟨out, v, rfl, c3.skip (by omega) c2 fun d h1 h2 => ?_⟩
    rw [inB_false]
    intro h
    obtain ⟨t, ht, g1, g2⟩ := (m3 d).2 ⟨h, ⟨by omega, by omega⟩, by omega, by omega⟩
    have := c5 t ht; omega
  · have hsr := n3.1 t (by simpa using h)
    have := (m3 t.From).1 ⟨t, by simpa using h, by omega, by omega⟩
    omega
theorem map_day_InS {l : List Int} {x : Int} : InS (l.map (fun d => (⟨d, d + 1⟩ : Span))) x ↔ x ∈ l := by
  constructor
  · rintro ⟨s, hs, h1, h2⟩
    obtain ⟨d, hd, rfl⟩ := List.mem_map.1 hs
    dsimp only at h1 h2
    have : x = d := by omega
    rw [this]; exact hd
  · intro h
    exact ⟨_, List.mem_map.2 ⟨x, h, rfl⟩, by dsimp only; omega, by dsimp only; omega⟩
set_option maxHeartbeats 2000000 in
theorem Payable_prog {z sp : List Span} (hF : Fit z sp) : ∃ r, loopC FU (sickness_Payable_l z sp) ([], 0, (⟨[]⟩ : sickness_window)) = some r ∧ Nrm r ∧ ∀ x, InS r x ↔ x ∈ pz z sp 73049 := by
  have hzl := Nrm_len hF.nz
  have hsl := Nrm_len hF.ns
  refine loop_list (f := sickness_Payable_l z sp) sp (fun (s : List Span × sickness_window) i => (s.1, i, s.2))
    (fun s i => ∃ c, 0 ≤ c ∧ c ≤ 73049 ∧ RelP z sp c s.1 s.2 ∧ (∀ t ∈ sp.take i, t.To ≤ c) ∧ ∀ t ∈ sp.drop i, c ≤ t.From)
    (fun o => ∃ r, o = some r ∧ Nrm r ∧ ∀ x, InS r x ↔ x ∈ pz z sp 73049) (by omega) ?_ ?_ ([], (⟨[]⟩ : sickness_window)) ⟨0, by omega, by omega, ⟨rfl, [], rfl, fun x h => (by cases h)⟩, fun t h => by simp at h, fun t h => (hF.ns.1 t (by simpa using h)).1⟩
  · rintro rec ⟨out, v⟩ i y hi hy ⟨c, c0, c1, c2, c3, c4⟩
    right
    have hym : y ∈ sp := List.mem_of_getElem? hy
    have hyr := hF.ns.1 y hym
    obtain ⟨z3, e3, n3, m3⟩ := Clip_spec z y (by omega)
    have hcy : c ≤ y.From := c4 y (by rw [drop_ix hy]; exact List.mem_cons_self ..)
    have hno : ∀ d, c ≤ d → d < y.From → inB z d = false := by
      intro d h1 h2
      rw [inB_false]
      intro h
      obtain ⟨t, ht, g1, g2⟩ := hF.cov d h
      rcases mem_split hy ht with h' | h' | h'
      · have := c3 t h'; omega
      · subst h'; omega
      · have := (pairs_take hF.ns.2 hy).2 t h'; omega
    obtain ⟨out', v', e1, e2⟩ := pay_spell hF hym n3 m3 i (by omega) rec out v (c2.skip c0 hcy hno)
    refine ⟨(out', v'), ?_, y.To, by omega, by omega, e2, fun t ht => ?_, fun t ht => ?_⟩
    · unfold sickness_Payable_l
      dsimp only
      rw [if_pos (by simp; omega), getI_ix hy, Option.bind_some, e3, Option.bind_some, e1]
    · rw [take_ix hy] at ht
      rcases List.mem_append.1 ht with h | h
      · have := (pairs_take hF.ns.2 hy).1 t h; omega
      · rw [List.mem_singleton] at h; subst h; exact Int.le_refl _
    · have := (pairs_take hF.ns.2 hy).2 t ht; omega
  · rintro rec ⟨out, v⟩ ⟨c, c0, c1, c2, c3, c4⟩
    rw [List.take_length] at c3
    have hlast := c2.skip (d := 73049) c0 c1 fun d h1 h2 => by
      rw [inB_false]
      intro h
      obtain ⟨t, ht, g1, g2⟩ := hF.cov d h
      have := c3 t ht; omega
    unfold sickness_Payable_l
    dsimp only
    rw [if_neg (by simp)]
    have hout : out = (pz z sp 73049).map (fun d => (⟨d, d + 1⟩ : Span)) := hlast.1
    have hol : out.length ≤ 73049 := by rw [hout, List.length_map]; exact pz_len (Int.le_refl _)
    obtain ⟨r, r1, r2, r3, _⟩ := Make_spec out (by omega)
    rw [r1, Option.bind_some]
    refine ⟨r, rfl, r2, fun x => ?_⟩
    rw [r3, hout, map_day_InS]
    refine ⟨fun h => h.1, fun h => ⟨h, ?_⟩⟩
    have := pz_mem h; omega

/-! ### what the reference pays -/
theorem drop_win {l : List Int} {k : Nat} {x : Int} (h : l[k]? = some x) (hs : l.Pairwise (· < ·)) : ∀ y ∈ l.drop k, x ≤ y := by
  intro y hy
  have hd := hs.sublist (List.drop_sublist k l)
  rw [drop_ix h] at hy hd
  rcases List.mem_cons.1 hy with h | h
  · omega
  · have := (List.pairwise_cons.1 hd).1 y h; omega
/-- The reference's state before a day. -/
def RelR (z sp : List Span) (c : Int) (x7 : List Span) (x8 : List Int) (x9 x10 x11 : Int) : Prop := Nrm x7 ∧ (∀ d, InS x7 d ↔ d ∈ pz z sp c) ∧ x8 = pz z sp c ∧ ∃ j k : Nat, x9 = (j : Int) ∧ x11 = (k : Int) ∧ j ≤ sp.length ∧ k ≤ x8.length ∧ (∀ x ∈ x8.take k, x < c - 1094) ∧ (∀ s ∈ sp.take j, s.To ≤ c) ∧
  ∀ s, sp[j]? = some s → x10 = (cnt z s.From c : Int) ∧ ∀ d, d < c → inB z d = true → d < s.To
theorem RelR.skip {z sp : List Span} {c d : Int} {x7 : List Span} {x8 : List Int} {x9 x10 x11 : Int} (h : RelR z sp c x7 x8 x9 x10 x11) (h0 : 0 ≤ c) (hd : c ≤ d) (hn : ∀ x, c ≤ x → x < d → inB z x = false) : RelR z sp d x7 x8 x9 x10 x11 := by
  obtain ⟨h1, h2, h3, j, k, h4, h5, h6, h7, h8, h9, h10⟩ := h
  unfold RelR
  rw [pz_skip h0 hd hn]
  refine ⟨h1, h2, h3, j, k, h4, h5, h6, h7, fun x hx => by have := h8 x hx; omega, fun s hs => by have := h9 s hs; omega, fun s hs => ?_⟩
  obtain ⟨g1, g2⟩ := h10 s hs
  refine ⟨by rw [cnt_skip hd hn]; exact g1, fun x hx hb => g2 x ?_ hb⟩
  rcases Int.lt_or_le x c with h | h
  · exact h
  · have := hn x h hx; rw [hb] at this; cases this
set_option maxHeartbeats 4000000 in
/-- One sick day of the reference. -/
theorem ref_day {z sp : List Span} (hF : Fit z sp) {day : Int} (hd : inB z day = true) (rec : ((List Span) × (List Int) × Int × Int × Int × Int) → Option (List Span)) (x7 : List Span) (x8 : List Int) (x9 x10 x11 : Int) (hR : RelR z sp day x7 x8 x9 x10 x11) :
    ∃ y7 y8 y9 y10 y11, loopC FU (pensionref21_Payable_l3 sp x7 x8 x11 day rec) (x9, x10) = rec (y7, y8, y9, y10, y11, day + 1) ∧ RelR z sp (day + 1) y7 y8 y9 y10 y11 := by
  have hdr := Nrm_InS hF.nz (inB_iff.1 hd)
  have hsl := Nrm_len hF.ns
  obtain ⟨s, hs, hsd⟩ := hF.cov day (inB_iff.1 hd)
  have hsr := hF.ns.1 s hs
  obtain ⟨m, hm⟩ := List.mem_iff_getElem?.1 hs
  have hml : m < sp.length := (List.getElem?_eq_some_iff.1 hm).1
  obtain ⟨n7, m7, r8, j, k, r9, r11, hj, hk, hwin, hpast, hcur⟩ := hR
  have hx8l : x8.length ≤ 73049 := by rw [r8]; exact pz_len (by omega)
  have hjm : ∀ j : Nat, j ≤ sp.length → (∀ t ∈ sp.take j, t.To ≤ day) → j ≤ m := by
    intro j hj hp
    rcases Nat.lt_or_ge m j with h | h
    · have : s ∈ sp.take j := List.mem_iff_getElem?.2 ⟨m, by rw [List.getElem?_take_of_lt h]; exact hm⟩
      have := hp s this; omega
    · exact h
  refine loopC_innerFU (f := pensionref21_Payable_l3 sp x7 x8 x11 day rec) (fun st => ∃ (j : Nat) (n : Int), st = ((j : Int), n) ∧ j ≤ sp.length ∧ (∀ t ∈ sp.take j, t.To ≤ day) ∧ ∀ t, sp[j]? = some t → n = (cnt z t.From day : Int) ∧ ∀ d, d < day → inB z d = true → d < t.To) (fun st => sp.length - st.1.toNat)
    (fun o => ∃ y7 y8 y9 y10 y11, o = rec (y7, y8, y9, y10, y11, day + 1) ∧ RelR z sp (day + 1) y7 y8 y9 y10 y11) ⟨j, x10, by rw [r9], hj, hpast, hcur⟩ (by dsimp only; omega) ?_
  rintro st rc ⟨j, n, rfl, hj, hp, hc⟩
  have hjm' := hjm j hj hp
  obtain ⟨t, ht⟩ : ∃ t, sp[j]? = some t := ⟨_, List.getElem?_eq_getElem (by omega)⟩
  obtain ⟨hn, hcd⟩ := hc t ht
  unfold pensionref21_Payable_l3
  dsimp only
  rw [if_pos (by simp; omega), getI_ix ht, Option.bind_some, Option.bind_some]
  by_cases hto : t.To ≤ day
  · right
    rw [if_pos (by simpa using hto), idx_succ (by omega)]
    refine ⟨_, rfl, ⟨j + 1, 0, rfl, by omega, fun u hu => ?_, fun u hu => ?_⟩, by simp only [Int.toNat_natCast]; omega⟩
    · rw [take_ix ht] at hu
      rcases List.mem_append.1 hu with h | h
      · exact hp u h
      · rw [List.mem_singleton] at h; subst h; exact hto
    · have hur := hF.ns.1 u (List.mem_of_getElem? hu)
      have htu : t.To < u.From := (pairs_take hF.ns.2 ht).2 u (by rw [drop_ix hu]; exact List.mem_cons_self ..)
      refine ⟨?_, fun d h1 h2 => by have := hcd d h1 h2; omega⟩
      rw [cnt_zero]; · rfl
      intro d h1 h2
      cases hb : inB z d with
      | false => rfl
      | true => have := hcd d h2 hb; omega
  · left
    rw [if_neg (by simpa using hto)]
    have hjeq : t = s := by
      rcases Nat.lt_or_ge j m with h | h
      · exfalso
        have : s ∈ sp.drop (j + 1) := by
          rw [List.mem_iff_getElem?]; exact ⟨m - (j + 1), by rw [List.getElem?_drop, show j + 1 + (m - (j + 1)) = m by omega]; exact hm⟩
        have := (pairs_take hF.ns.2 ht).2 s this
        omega
      · have : j = m := by omega
        subst this
        rw [hm] at ht; exact (Option.some.inj ht).symm
    subst hjeq
    have hcs : cnt z t.From (day + 1) = cnt z t.From day + 1 := by rw [cnt_succ (by omega), hd]; rfl
    have hcle : (cnt z t.From day : Int) ≤ 100000 := by
      have : ∀ n, cntN z t.From n ≤ n := by
        intro n
        induction n with
        | zero => exact Nat.le_refl _
        | succ n ih => unfold cntN; split <;> omega
      have := this (day - t.From).toNat
      unfold cnt; omega
    have hwt := wt_of (z := z) hF.ns hs (d := day) hsd
    have hpsucc := pz_succ (z := z) (sp := sp) (d := day) (by omega)
    have hps := pz_srt (z := z) (sp := sp) day
    rw [← r8] at hps hpsucc
    subst hn
    refine loopC_innerFU (f := pensionref21_Payable_l4 x7 x8 day rec (j : Int) (cnt z t.From day : Int)) (fun st => ∃ k : Nat, st = (k : Int) ∧ k ≤ x8.length ∧ ∀ x ∈ x8.take k, x < day - 1094) (fun st => x8.length - st.toNat)
      (fun o => ∃ y7 y8 y9 y10 y11, o = rec (y7, y8, y9, y10, y11, day + 1) ∧ RelR z sp (day + 1) y7 y8 y9 y10 y11) ⟨k, r11, hk, hwin⟩ (by rw [r11]; omega) ?_
    rintro st rc2 ⟨k, rfl, hk, hwin⟩
    unfold pensionref21_Payable_l4 pensionref21_Payable_j
    rw [i64_id (n := day - 1094) (by omega) (by omega), i64_id (n := (cnt z t.From day : Int) + 1) (by omega) (by omega), i64_id (n := (x8.length : Int) - (k : Int)) (by omega) (by omega), i64_id (n := day + 1) (by omega) (by omega)]
    have stop : (∀ y ∈ x8.drop k, day - 1094 ≤ y) → ∃ y7 y8 y9 y10 y11, (if (decide ((cnt z t.From day : Int) + 1 ≤ 3) || decide (546 ≤ (x8.length : Int) - (k : Int))) = true then rec (x7, x8, (j : Int), (cnt z t.From day : Int) + 1, (k : Int), day + 1) else
        Option.bind (appI 8 x8 [day]) fun l => Option.bind (if decide (0 < (x7.length : Int)) = true then Option.bind (getI x7 (i64 ((x7.length : Int) - 1))) fun y5 => some (y5.To == day) else some false) fun c3 => if c3 = true then
          Option.bind (getI x7 (i64 ((x7.length : Int) - 1))) fun y6 => rec (setI x7 (i64 ((x7.length : Int) - 1)) ({ y6 with To := day + 1 } : Span), l, (j : Int), (cnt z t.From day : Int) + 1, (k : Int), day + 1)
        else
          Option.bind (appI 16 x7 [(⟨day, day + 1⟩ : Span)]) fun l2 => rec (l2, l, (j : Int), (cnt z t.From day : Int) + 1, (k : Int), day + 1)) = rec (y7, y8, y9, y10, y11, day + 1) ∧ RelR z sp (day + 1) y7 y8 y9 y10 y11 := by
      intro hdrop
      have hfl : (x8.filter (fun x => decide (day - 1094 ≤ x))).length = x8.length - k := by
        have := filt_len (pre := x8.take k) (q := x8.drop k) hwin hdrop
        rw [List.take_append_drop, List.length_drop] at this
        exact this
      rw [hfl, hd, hwt] at hpsucc
      have hcur' : ∀ u, sp[j]? = some u → ((cnt z t.From day : Int) + 1 = (cnt z u.From (day + 1) : Int) ∧ ∀ d, d < day + 1 → inB z d = true → d < u.To) := by
        intro u hu
        have : u = t := by rw [ht] at hu; exact (Option.some.inj hu).symm
        subst this
        refine ⟨by rw [hcs]; omega, fun d h1 h2 => ?_⟩
        rcases Int.lt_or_le d day with h | h
        · exact hcd d h h2
        · omega
      by_cases hst : (cnt z t.From day : Int) + 1 ≤ 3 ∨ 546 ≤ (x8.length : Int) - (k : Int)
      · rw [if_pos (by simpa using hst)]
        have hsame : pz z sp (day + 1) = x8 := by
          rw [hpsucc, if_neg]
          simp only [Bool.true_and, Bool.and_eq_true, Bool.not_eq_true', decide_eq_false_iff_not, decide_eq_true_eq]
          omega
        refine ⟨_, _, _, _, _, rfl, n7, fun d => by rw [hsame, r8]; exact m7 d, hsame.symm, j, k, rfl, rfl, by omega, hk, fun x hx => by have := hwin x hx; omega, fun u hu => by have := hp u hu; omega, hcur'⟩
      · rw [if_neg (by simpa using hst)]
        have hmore : pz z sp (day + 1) = x8 ++ [day] := by
          rw [hpsucc, if_pos]
          simp only [Bool.true_and, Bool.and_eq_true, Bool.not_eq_true', decide_eq_false_iff_not, decide_eq_true_eq]
          omega
        have h7l := Nrm_len n7
        rw [appI_of (by simp; omega), Option.bind_some]
        have htk : ∀ x ∈ (x8 ++ [day]).take k, x < day + 1 - 1094 := fun x hx => by
          rw [List.take_append_of_le_length hk] at hx
          have := hwin x hx; omega
        have low : ∀ u ∈ x7, u.To ≤ day := by
          intro u hu
          have hur := n7.1 u hu
          have := (m7 (u.To - 1)).1 ⟨u, hu, by omega, by omega⟩
          have := pz_mem this; omega
        have fin : ∀ y7, Nrm y7 → (∀ d, InS y7 d ↔ InS x7 d ∨ d = day) → RelR z sp (day + 1) y7 (x8 ++ [day]) (j : Int) ((cnt z t.From day : Int) + 1) (k : Int) := by
          intro y7 hy7 hm
          refine ⟨hy7, fun d => ?_, hmore.symm, j, k, rfl, rfl, by omega, by simp; omega, htk, fun u hu => by have := hp u hu; omega, hcur'⟩
          rw [hm, hmore, m7, r8]; simp
        rcases ends x7 with rfl | ⟨a, u, rfl⟩
        · rw [if_neg (by simp), Option.bind_some, if_neg (by simp), appI_of (by simp), Option.bind_some]
          refine ⟨_, _, _, _, _, rfl, fin _ (Nrm_snoc.2 ⟨Nrm_nil, fun t h => (by cases h), by dsimp only; omega, by dsimp only; omega, by dsimp only; omega⟩) fun d => ?_⟩
          rw [InS_app, InS_one]; dsimp only
          constructor
          · rintro (h | h)
            · exact .inl h
            · exact .inr (by omega)
          · rintro (h | h)
            · exact .inl h
            · exact .inr (by omega)
        · have hal : a.length < 2 ^ 62 := by simp at h7l; omega
          obtain ⟨q1, q2, q3⟩ := Nrm_snoc.1 n7
          have hlo := low u (by simp)
          rw [if_pos (by simp), last_ix a u hal, Option.bind_some, Option.bind_some]
          by_cases hu : u.To = day
          · rw [if_pos (by simpa using hu), Option.bind_some, last_set a u _ hal]
            refine ⟨_, _, _, _, _, rfl, fin _ (Nrm_snoc.2 ⟨q1, q2, q3.1, by dsimp only; omega, by dsimp only; omega⟩) fun d => ?_⟩
            rw [InS_app, InS_one, InS_app, InS_one]; dsimp only
            by_cases ha : InS a d
            · simp [ha]
            · simp only [ha, false_or]; omega
          · rw [if_neg (by simpa using hu), appI_of (by simp at h7l ⊢; omega), Option.bind_some]
            refine ⟨_, _, _, _, _, rfl, fin _ (Nrm_snoc.2 ⟨n7, fun w hw => ?_, by dsimp only; omega, by dsimp only; omega, by dsimp only; omega⟩) fun d => ?_⟩
            · dsimp only
              rcases List.mem_append.1 hw with h | h
              · have := q2 w h; omega
              · rw [List.mem_singleton] at h; subst h; omega
            · rw [InS_app (a := a ++ [u]), InS_one]; dsimp only
              constructor
              · rintro (h | h)
                · exact .inl h
                · exact .inr (by omega)
              · rintro (h | h)
                · exact .inl h
                · exact .inr (by omega)
    by_cases hkl : k < x8.length
    · obtain ⟨w, hw⟩ : ∃ w, x8[k]? = some w := ⟨_, List.getElem?_eq_getElem hkl⟩
      rw [if_pos (by simp; omega), getI_ix hw, Option.bind_some, Option.bind_some]
      by_cases hwd : w < day - 1094
      · right
        rw [if_pos (by simpa using hwd), idx_succ (by omega)]
        refine ⟨_, rfl, ⟨k + 1, rfl, by omega, fun x hx => ?_⟩, by simp only [Int.toNat_natCast]; omega⟩
        rw [take_ix hw] at hx
        rcases List.mem_append.1 hx with h | h
        · exact hwin x h
        · rw [List.mem_singleton] at h; subst h; exact hwd
      · left
        rw [if_neg (by simpa using hwd)]
        exact stop fun y hy => by have := drop_win hw hps y hy; omega
    · left
      rw [if_neg (by simp; omega), Option.bind_some, if_neg (by simp)]
      exact stop fun y hy => by rw [List.drop_eq_nil_of_le (by omega)] at hy; cases hy
end Go.PL
