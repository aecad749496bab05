/- DecisionSelectIgnoresOrder is true. Plain Lean. -/
import Derived.Test.YtndkbfbjjnhgoaaGreatSel
set_option linter.unusedSimpArgs false
set_option linter.unusedVariables false
namespace Go.PL
open Go

theorem vB_ref (c : Claim) : pensionref26_Valid c = some (vB c) := by
  obtain ⟨v, h2, h3⟩ := Valid_agree c
  rw [vB_eq] at h2
  cases h2
  exact h3
theorem Turn_eq (l : List Claim) (hl : l.length ≤ 12) (by_ : Int) : ∃ t, pensionlaw26_Turn l by_ = some t ∧ t.length ≤ 13 ∧ ∀ c, c ∈ t ↔ c ∈ l := by
  unfold pensionlaw26_Turn
  by_cases h0 : l.length = 0
  · rw [if_pos (by simp [h0])]
    have : l = [] := List.length_eq_zero_iff.1 h0
    subst this
    exact ⟨[], rfl, by simp, fun c => Iff.rfl⟩
  · rw [if_neg (by simpa using h0), Mod_eq (m := (l.length : Int)) (by omega) (by omega), Option.bind_some]
    have hz : 0 ≤ by_ % (l.length : Int) ∧ by_ % (l.length : Int) < (l.length : Int) := ⟨Int.emod_nonneg _ (by omega), Int.emod_lt_of_pos _ (by omega)⟩
    generalize by_ % (l.length : Int) = z at hz
    obtain ⟨k, rfl⟩ : ∃ k : Nat, z = (k : Int) := ⟨z.toNat, by omega⟩
    have hk : k < l.length := by omega
    have hg : getI l (k : Int) = some l[k] := by rw [getI_nat]; exact List.getElem?_eq_getElem hk
    rw [sliceI_of (by omega) (by omega) (by omega), Option.bind_some]
    have e1 : ((l.drop (k : Int).toNat).take ((l.length : Int).toNat - (k : Int).toNat)) = l.drop k := by
      simp only [Int.toNat_natCast]
      exact List.take_of_length_le (by rw [List.length_drop]; exact Nat.le_refl _)
    rw [e1, appI_of (by simp only [List.length_nil, List.length_drop]; omega), Option.bind_some, sliceI_of (by omega) (by omega) (by omega), Option.bind_some]
    have e2 : ((l.drop (0 : Int).toNat).take ((k : Int).toNat - (0 : Int).toNat)) = l.take k := by simp
    rw [e2, List.nil_append, appI_of (by simp only [List.length_take, List.length_drop]; omega), Option.bind_some, hg, Option.bind_some, appI_of (by simp only [List.length_append, List.length_take, List.length_drop, List.length_cons, List.length_nil]; omega), Option.bind_some]
    refine ⟨_, rfl, by simp only [List.length_append, List.length_take, List.length_drop, List.length_cons, List.length_nil]; omega, fun c => ?_⟩
    have hm : c ∈ l ↔ c ∈ l.take k ∨ c ∈ l.drop k := by rw [← List.mem_append, List.take_append_drop]
    simp only [List.mem_append, List.mem_singleton]
    rw [hm]
    constructor
    · rintro ((h | h) | rfl)
      · exact .inr h
      · exact .inl h
      · exact .inr (by rw [List.drop_eq_getElem_cons hk]; exact List.mem_cons_self)
    · rintro (h | h)
      · exact .inl (.inr h)
      · exact .inl (.inl h)
theorem bad_loop (l raw : List Claim) (hraw : raw.length * 48 ≤ 140737488351232) (p m b : Int) (R : List Claim → Prop) (hR : ∀ bad, bad = raw.filter (fun c => !vB c) → ∀ rec x, raw.length ≤ x → pensionlaw26_DecisionSelectIgnoresOrder_l raw p m b l rec (bad, (x : Int)) = some true) :
    loopC FU (pensionlaw26_DecisionSelectIgnoresOrder_l raw p m b l) ([], 0) = some true := by
  obtain ⟨r, h1, h2⟩ := loopC_FU (f := pensionlaw26_DecisionSelectIgnoresOrder_l raw p m b l) (fun s => ∃ x : Nat, s = ((raw.take x).filter (fun c => !vB c), (x : Int)) ∧ x ≤ raw.length) (fun s => raw.length - s.2.toNat) (fun r => r = true) (s := ([], 0)) ⟨0, rfl, Nat.zero_le _⟩ (by show raw.length - _ < _; (try unfold FU); omega) (by
    rintro st rec ⟨x, rfl, hx⟩
    by_cases h : x < raw.length
    · right
      have hg : getI raw (x : Int) = some raw[x] := by rw [getI_nat]; exact List.getElem?_eq_getElem h
      have htk : (raw.take (x + 1)).filter (fun c => !vB c) = (raw.take x).filter (fun c => !vB c) ++ [raw[x]].filter (fun c => !vB c) := by rw [List.take_succ_eq_append_getElem h, List.filter_append]
      have hfl : ((raw.take x).filter (fun c => !vB c)).length ≤ x := by
        have := List.length_filter_le (fun c => !vB c) (raw.take x)
        rw [List.length_take] at this; omega
      have e1 : i64 ((x : Int) + 1) = ((x + 1 : Nat) : Int) := by rw [i64_id (by omega) (by omega)]; simp
      unfold pensionlaw26_DecisionSelectIgnoresOrder_l pensionlaw26_DecisionSelectIgnoresOrder_j
      dsimp only
      rw [if_pos (by simp; omega), hg, Option.bind_some, vB_ref, Option.bind_some]
      cases hv : vB raw[x] with
      | true =>
        rw [if_neg (by simp), e1]
        exact ⟨((raw.take (x + 1)).filter (fun c => !vB c), ((x + 1 : Nat) : Int)), by rw [htk]; simp [hv], ⟨x + 1, rfl, h⟩, by simp only [Int.toNat_natCast]; omega⟩
      | false =>
        rw [if_pos (by simp), Option.bind_some, appI_of (by simp only [List.length_cons, List.length_nil]; omega), Option.bind_some, e1]
        exact ⟨((raw.take (x + 1)).filter (fun c => !vB c), ((x + 1 : Nat) : Int)), by rw [htk]; simp [hv], ⟨x + 1, rfl, h⟩, by simp only [Int.toNat_natCast]; omega⟩
    · left
      have : x = raw.length := by omega
      subst this
      rw [List.take_length]
      exact ⟨true, hR _ rfl rec _ (Nat.le_refl _), rfl⟩)
  rw [h1, h2]
theorem DecisionSelectIgnoresOrder_true (d : List pensionhand_Claim) (hd : d.length ≤ 9223372036854775807) (raw : List Claim) (hraw : raw.length * 48 ≤ 140737488351232) (day person month by_ : Int) : pensionlaw26_DecisionSelectIgnoresOrder d raw day person month by_ = some true := by
  obtain ⟨l, hl, hl6, hok⟩ := Claims_ok d hd
  obtain ⟨a, ha, ha6, hok2⟩ := All_ok day
  have hlen : (l ++ a).length ≤ 12 := by simp [ha6]; omega
  have hall : ∀ c ∈ l ++ a, handOK c := fun c hc => (List.mem_append.1 hc).elim (hok c) (hok2 c)
  unfold pensionlaw26_DecisionSelectIgnoresOrder
  rw [hl, Option.bind_some, ha, Option.bind_some, appI_of (by omega), Option.bind_some]
  generalize l ++ a = q at hlen hall
  refine bad_loop q raw hraw person month by_ (fun _ => True) ?_
  intro bad hbad rec x hx
  have hbl : bad.length ≤ raw.length := by rw [hbad]; exact List.length_filter_le _ _
  obtain ⟨t, ht, ht13, htm⟩ := Turn_eq q hlen by_
  have hfb : bad.filter vB = [] := by
    rw [hbad, List.filter_filter]
    exact List.filter_eq_nil_iff.2 (fun c _ => by simp)
  have hfa : ((bad ++ t).filter vB).length ≤ 13 := by
    rw [List.filter_append, hfb, List.nil_append]
    exact Nat.le_trans (List.length_filter_le _ _) ht13
  have hfq := List.length_filter_le vB q
  unfold pensionlaw26_DecisionSelectIgnoresOrder_l pensionlaw26_Person pensionlaw26_Month
  dsimp only
  rw [if_neg (by simp; omega), Mod_eq (by decide) (by decide), Mod_eq (by decide) (by decide), awake26]
  simp only [Option.bind_some, if_true]
  generalize i64 (1 + person % 4) = p
  generalize i64 (1155 + month % 40) = m
  have hS : ∃ r, decision_Select q p m = some r ∧ decision_Select (bad ++ t) p m = some r ∧ r.length ≤ 600 := by
    unfold decision_Select
    split
    · exact ⟨[], rfl, rfl, by simp⟩
    · obtain ⟨q1, a1, a2, a3, a4⟩ := sorted_props q (by omega) (by omega)
      obtain ⟨q2, b1, b2, b3, b4⟩ := sorted_props (bad ++ t) (by simp only [List.length_append]; omega) (by omega)
      have e : q2 = q1 := sorted_uniq b2 a2 (fun c => by
        rw [b3, a3, List.mem_append, htm]
        constructor
        · rintro ⟨h | h, hv⟩
          · rw [hbad, List.mem_filter] at h
            rw [hv] at h; exact absurd h.2 (by simp)
          · exact ⟨h, hv⟩
        · rintro ⟨h, hv⟩; exact ⟨.inr h, hv⟩)
      subst e
      obtain ⟨r, h1, h2, h3, h4⟩ := effective_eq q2 a2 (by omega) (fun c hc => hall c ((a3 c).1 hc).1) p m
      rw [a1, b1]
      simp only [Option.bind_some]
      refine ⟨r, by rw [h1]; rfl, by rw [h1]; rfl, ?_⟩
      have hsub : ∀ c ∈ r, c ∈ q2 := fun c hc => ((h3 c).1 hc).mem
      have := List.Nodup.length_le_of_subset h2 hsub
      omega
  obtain ⟨r, c1, c2, c3⟩ := hS
  rw [c1, ht]
  simp only [Option.bind_some]
  rw [appI_of (by omega)]
  simp only [Option.bind_some]
  rw [c2]
  simp only [Option.bind_some]
  rw [SameC_refl r (by omega)]
  rfl
end Go.PL
