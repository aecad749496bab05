/- FamilyPaymentsIgnoreOrder is true. Plain Lean. -/
import Derived.Test.YtcgfjcpggbcloaaDoorSeq
set_option linter.unusedSimpArgs false
set_option linter.unusedVariables false
namespace Go.PL
open Go

theorem FamilyPay_eqb (y : FamilyPay) : FamilyPay.eqb y y = true := by unfold FamilyPay.eqb; simp
theorem Same_refl (o : List FamilyPay) (hl : o.length ≤ 1000) : pensionplain_Same_of_api_FamilyPay o o = some true := by
  unfold pensionplain_Same_of_api_FamilyPay
  rw [if_neg (by simp)]
  obtain ⟨r, h1, h2⟩ := loopC_FU (f := pensionplain_Same_of_api_FamilyPay_l o o) (fun s => ∃ x : Nat, s = (x : Int) ∧ x ≤ o.length) (fun s => o.length - s.toNat) (fun r => r = true) (s := 0) ⟨0, rfl, Nat.zero_le _⟩ (by show o.length - _ < _; omega) (by
    rintro s rec ⟨x, rfl, hx⟩
    unfold pensionplain_Same_of_api_FamilyPay_l
    by_cases h : x < o.length
    · right
      have hg : getI o (x : Int) = some o[x] := by rw [getI_nat]; exact List.getElem?_eq_getElem h
      rw [if_pos (by simp; omega), hg]
      simp only [Option.bind_some, FamilyPay_eqb, Bool.not_true, Bool.false_eq_true, if_false]
      rw [i64_id (n := (x : Int) + 1) (by omega) (by omega)]
      exact ⟨((x + 1 : Nat) : Int), rfl, ⟨x + 1, rfl, h⟩, by simp only [Int.toNat_natCast]; omega⟩
    · left
      rw [if_neg (by simp; omega)]
      exact ⟨_, rfl, rfl⟩)
  rw [h1, h2]
theorem rightsOK.of_perm {l l2 : List Right} (h : rightsOK l) (hp : l2.Perm l) : rightsOK l2 := by
  have hnd : (l.map (·.State)).Nodup := by
    rw [List.nodup_iff_pairwise_ne, List.pairwise_map, List.pairwise_iff_getElem]
    intro i j hi hj hij
    exact state_ne h (i := (i : Int)) (k := (j : Int)) (by rw [getI_nat]; exact List.getElem?_eq_getElem hi) (by rw [getI_nat]; exact List.getElem?_eq_getElem hj) (by omega)
  have hnd2 : (l2.map (·.State)).Nodup := ((hp.map _).nodup_iff).2 hnd
  rw [List.nodup_iff_pairwise_ne, List.pairwise_map, List.pairwise_iff_getElem] at hnd2
  refine ⟨by rw [hp.length_eq]; exact h.1, fun x hx => ⟨l2[x], List.getElem?_eq_getElem hx, h.mem (hp.subset (List.getElem_mem hx)), fun k o hk ho => ?_⟩⟩
  obtain ⟨hk2, e⟩ := List.getElem?_eq_some_iff.1 ho
  rw [← e]
  exact hnd2 k x hk2 hx hk
theorem FamilyPaymentsIgnoreOrder_true (d : List pensionlaw24_Raw) (hd : d.length ≤ 9223372036854775807) (i : Int) (p : List Int) (hp : p.length ≤ 9223372036854775807) (p2 p3 : Int) : pensionlaw24_FamilyPaymentsIgnoreOrder d i p p2 p3 = some true := by
  obtain ⟨l, hl, hok⟩ := List_ok d hd
  obtain ⟨t, ht, htok⟩ := Rates_ok p hp
  have hm : 0 ≤ p2 % 2400 ∧ p2 % 2400 ≤ 2399 := by omega
  unfold pensionlaw24_FamilyPaymentsIgnoreOrder
  rw [hl, Option.bind_some, ht, Option.bind_some, mod_month, Option.bind_some, mod_home, Option.bind_some, awake_eq]
  generalize p2 % 2400 = m at hm
  generalize i64 (i % 8 - 1) = home
  have hr := hok.ok
  have hl6 := hr.1
  by_cases h0 : l.length = 0
  · rw [if_pos (by simp [h0])]; rfl
  · rw [if_neg (by simp; intro h; exact h0 (by rw [h]; rfl)), Mod_eq (by omega) (by omega), Option.bind_some]
    have hk : 0 ≤ p3 % (l.length : Int) ∧ p3 % (l.length : Int) < (l.length : Int) := ⟨Int.emod_nonneg _ (by omega), Int.emod_lt_of_pos _ (by omega)⟩
    generalize p3 % (l.length : Int) = k at hk
    obtain ⟨o, _, hin, hlen, _, hperm, _, hsort, hpay⟩ := Payments_seq t htok home m hm l hr
    have e1 : sliceI l k (l.length : Int) = some (l.drop k.toNat) := by
      rw [sliceI_of (by omega) (by omega) (by omega), List.take_of_length_le (by rw [List.length_drop]; omega)]
    have e2 : sliceI l 0 k = some (l.take k.toNat) := by rw [sliceI_of (by omega) (by omega) (by omega)]; simp
    have d1 : (l.drop k.toNat).length ≤ 6 := by rw [List.length_drop]; omega
    have d2 : (l.take k.toNat).length ≤ 6 := by rw [List.length_take]; omega
    rw [hpay, Option.bind_some, e1, Option.bind_some, appI_of (by simp only [List.length_nil]; omega), Option.bind_some, List.nil_append, e2, Option.bind_some, appI_of (by omega), Option.bind_some]
    have hp2 : (l.drop k.toNat ++ l.take k.toNat).Perm l := List.perm_append_comm.trans (List.Perm.of_eq (List.take_append_drop _ _))
    have hr2 := hr.of_perm hp2
    obtain ⟨o2, _, hin2, hlen2, _, hperm2, _, hsort2, hpay2⟩ := Payments_seq t htok home m hm _ hr2
    have hseq : rightsAt (l.drop k.toNat ++ l.take k.toNat) o2 = rightsAt l o := by
      refine List.Perm.eq_of_pairwise (le := fun a b => ¬ cmpR t home m b a < 0) (fun a b ha hb h1 h2 => ?_) hsort2 hsort ((hperm2.trans hp2).trans hperm.symm)
      refine hr.same (hp2.subset (hperm2.subset ha)) (hperm.subset hb) ?_
      rw [cmpR_neg] at h1 h2
      omega
    rw [hpay2, hseq]
    have hpl := paysR_length t m (rightsAt l o) []
    rw [rightsAt_length l o hin] at hpl
    simp [hpl, hlen, Same_refl _ (show (paysR t m [] (rightsAt l o)).length ≤ 1000 by omega)]
end Go.PL
