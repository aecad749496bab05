/- FamilyOrderIsAPriority is true. Plain Lean. -/
import Derived.Test.YtcgfjcpggbcloaaDoorSeq
set_option linter.unusedSimpArgs false
set_option linter.unusedVariables false
namespace Go.PL
open Go

theorem FamilyOrderIsAPriority_true (d : List pensionlaw24_Raw) (hd : d.length ≤ 9223372036854775807) (i : Int) (p : List Int) (hp : p.length ≤ 9223372036854775807) (p2 : Int) : pensionlaw24_FamilyOrderIsAPriority d i p p2 = some true := by
  obtain ⟨l, hl, hok⟩ := List_ok d hd
  obtain ⟨t, ht, htok⟩ := Rates_ok p hp
  have hm : 0 ≤ p2 % 2400 ∧ p2 % 2400 ≤ 2399 := by omega
  unfold pensionlaw24_FamilyOrderIsAPriority
  rw [hl, Option.bind_some, ht, Option.bind_some, mod_month, Option.bind_some, mod_home, Option.bind_some]
  generalize p2 % 2400 = m at hm
  generalize i % 8 = h8
  have hr := hok.ok
  obtain ⟨o, ho, hin, hlen, hnd, _, hs, _, _⟩ := Payments_seq t htok (i64 (h8 - 1)) m hm l hr
  rw [ho, Option.bind_some, awake_eq, Option.bind_some]
  rw [if_neg (by simp [hlen])]
  have hl6 := hr.1
  obtain ⟨r, h1, h2⟩ := loopC_FU (f := pensionlaw24_FamilyOrderIsAPriority_l l h8 (o, 0)) (fun s => ∃ x : Nat, s.1 = (x : Int) ∧ x ≤ o.length ∧ s.2.length = 6 ∧ ∀ k : Nat, s.2[k]? = some true → ∃ j, j < x ∧ o[j]? = some (k : Int)) (fun s => o.length - s.1.toNat) (fun r => r = true) (s := (0, List.replicate 6 false))
    ⟨0, rfl, Nat.zero_le _, by simp, fun k hk => by exfalso; simp only [List.getElem?_replicate] at hk; split at hk <;> simp at hk⟩ (by show o.length - _ < _; omega) (by
    rintro ⟨x', v⟩ rec ⟨x, hxx, hx, hv6, hv⟩
    simp only at hxx hv6 hv
    subst hxx
    unfold pensionlaw24_FamilyOrderIsAPriority_l pensionlaw24_FamilyOrderIsAPriority_j
    dsimp only
    by_cases hlt : x < o.length
    · right
      have hox : o[x]? = some o[x] := List.getElem?_eq_getElem hlt
      have hgx : getI o (x : Int) = some o[x] := by rw [getI_nat]; exact hox
      have hyin := hin o[x] (List.getElem_mem hlt)
      generalize hy : o[x] = y at *
      obtain ⟨c, hc⟩ : ∃ c, v[y.toNat]? = some c := ⟨v[y.toNat]'(by omega), List.getElem?_eq_getElem (by omega)⟩
      have hgy : getI v y = some c := getI_at hyin.1 hc
      have hcf : c = false := by
        cases c with
        | false => rfl
        | true =>
          exfalso
          obtain ⟨j, hj, hoj⟩ := hv _ hc
          have e : ((y.toNat : Nat) : Int) = y := by omega
          rw [e] at hoj
          have := (List.getElem?_inj (i := j) (j := x) (by omega) hnd).1 (by rw [hoj, hox])
          omega
      subst hcf
      have e1 : decide ((x : Int) < (o.length : Int)) = true := by rw [decide_eq_true_eq]; omega
      have e2 : decide (y < 0) = false := by rw [decide_eq_false_iff_not]; omega
      have e3 : decide ((l.length : Int) ≤ y) = false := by rw [decide_eq_false_iff_not]; omega
      simp only [e1, if_true, hgx, Option.bind_some, e2, Bool.false_eq_true, if_false, e3, hgy]
      have hnext : ∃ s' : Int × List Bool, rec (i64 ((x : Int) + 1), setI v y true) = rec s' ∧ (∃ x : Nat, s'.1 = (x : Int) ∧ x ≤ o.length ∧ s'.2.length = 6 ∧ ∀ k : Nat, s'.2[k]? = some true → ∃ j, j < x ∧ o[j]? = some (k : Int)) ∧ o.length - s'.1.toNat < o.length - (x : Int).toNat := by
        rw [i64_id (n := (x : Int) + 1) (by omega) (by omega)]
        refine ⟨_, rfl, ⟨x + 1, by simp, hlt, ?_, fun k hk => ?_⟩, by simp only []; omega⟩
        · simp only [setI, if_pos hyin.1, List.length_set, hv6]
        · simp only [setI, if_pos hyin.1] at hk
          by_cases hky : k = y.toNat
          · subst hky
            exact ⟨x, by omega, by rw [hox]; congr 1; omega⟩
          · rw [List.getElem?_set_ne (by omega)] at hk
            obtain ⟨j, hj, hoj⟩ := hv k hk
            exact ⟨j, by omega, hoj⟩
      by_cases hx0 : x = 0
      · rw [if_pos (by simp [hx0])]
        exact hnext
      · rw [if_neg (by simp; omega), i64_id (n := (x : Int) - 1) (by omega) (by omega)]
        have hx1 : x - 1 < o.length := by omega
        have hgp : getI o ((x : Int) - 1) = some o[x - 1] := by
          have : (x : Int) - 1 = ((x - 1 : Nat) : Int) := by omega
          rw [this, getI_nat]; exact List.getElem?_eq_getElem hx1
        have hpin := hin o[x - 1] (List.getElem_mem hx1)
        have hle : Le (cmpI t (i64 (h8 - 1)) m l) o[x - 1] y := by
          have := List.pairwise_iff_getElem.1 hs (x - 1) x hx1 hlt (by omega)
          rwa [hy] at this
        have hne : o[x - 1] ≠ y := by
          intro e
          have := (List.getElem?_inj (i := x - 1) (j := x) (by omega) hnd).1 (by rw [hox, List.getElem?_eq_getElem hx1, e])
          omega
        generalize o[x - 1] = q at *
        obtain ⟨a, ha, ra⟩ := hr.get hpin
        obtain ⟨b, hb, rb⟩ := hr.get hyin
        rw [hgp, Option.bind_some, ha, Option.bind_some, hb, Option.bind_some]
        have hst := state_ne hr ha hb hne
        unfold Le at hle
        rw [cmpI_of hb ha, cmpR_neg] at hle
        have hno : (decide (b.Basis < a.Basis) || ((a.Basis == b.Basis) && (b.State == i64 (h8 - 1)))) = false := by
          rw [Bool.or_eq_false_iff]
          refine ⟨decide_eq_false (by omega), ?_⟩
          rw [Bool.and_eq_false_iff]
          by_cases hab : a.Basis = b.Basis
          · right
            rw [beq_eq_false_iff_ne]
            intro hbh
            apply hle
            right
            refine ⟨hab.symm, .inl ?_⟩
            unfold away
            rw [if_pos hbh, if_neg (fun h => hst (h.trans hbh.symm))]
            decide
          · left
            simpa using hab
        rw [hno]
        simp only [Bool.false_eq_true, if_false]
        exact hnext
    · left
      have e1 : decide ((x : Int) < (o.length : Int)) = false := by rw [decide_eq_false_iff_not]; omega
      simp only [e1, Bool.false_eq_true, if_false]
      exact ⟨_, rfl, rfl⟩)
  rw [h1, h2]
end Go.PL
