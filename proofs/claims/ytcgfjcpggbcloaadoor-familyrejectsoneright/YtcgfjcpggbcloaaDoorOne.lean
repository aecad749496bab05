/- FamilyRejectsOneRight is true. Plain Lean. -/
import Derived.Test.YtcgfjcpggbcloaaDoorList
set_option linter.unusedSimpArgs false
set_option linter.unusedVariables false
namespace Go.PL
open Go

theorem ratesOK_nil : ratesOK [] := ⟨by simp, fun x h => absurd h (Nat.not_lt_zero _)⟩
theorem rightsOK.all {l : List Right} (h : rightsOK l) {k : Nat} {y : Right} (hy : l[k]? = some y) : rightOK y := by
  obtain ⟨hk, hky⟩ := List.getElem?_eq_some_iff.1 hy
  obtain ⟨z, hz, h2, _⟩ := h.2 k hk
  rw [hy] at hz; cases hz; exact h2
theorem bad_set {l : List Right} {k : Int} {y y' : Right} (hk : getI l k = some y) (hy : ¬ rightOK y') : ¬ rightsOK (setI l k y') := by
  intro h
  obtain ⟨h0, h1, _⟩ := getI_lt hk
  refine hy (h.all (k := k.toNat) ?_)
  unfold setI
  rw [if_pos h0, List.getElem?_set_self (by omega)]
theorem bad_app {l : List Right} {k : Int} {y : Right} (hk : getI l k = some y) : ¬ rightsOK (l ++ [y]) := by
  intro h
  obtain ⟨h0, h1, h2⟩ := getI_lt hk
  obtain ⟨z, hz, _, h3⟩ := h.2 l.length (by simp)
  have : z = y := by simp at hz; exact hz.symm
  subst this
  exact h3 k.toNat z (by omega) (by rw [List.getElem?_append_left (by omega)]; exact h2) rfl
theorem OneRight_j {x : List Right} (h : ¬ rightsOK x) : pensionlaw24_FamilyRejectsOneRight_j x = some true := by
  unfold pensionlaw24_FamilyRejectsOneRight_j
  rw [Order_bad [] 0 0 x (fun hh => h hh.1), Payments_bad [] 0 0 x (fun hh => h hh.1)]
  rfl
theorem FamilyRejectsOneRight_true (d : List pensionlaw24_Raw) (hd : d.length ≤ 9223372036854775807) (i p p2 : Int) : pensionlaw24_FamilyRejectsOneRight d i p p2 = some true := by
  obtain ⟨l, hl, hok⟩ := List_ok d hd
  obtain ⟨o, ho, _, _, _⟩ := Payments_ok [] ratesOK_nil 0 0 (by omega) l hok.ok
  unfold pensionlaw24_FamilyRejectsOneRight
  rw [hl, Option.bind_some, ho, Option.bind_some, awake_eq]
  simp only [bne_self_eq_false, Bool.false_eq_true, if_false, Option.bind_some, Bool.not_true]
  have hlen := hok.ok.1
  by_cases h0 : l.length = 0
  · rw [if_pos (by simp [h0])]
  · rw [if_neg (by simp; intro h; exact h0 (by rw [h]; rfl))]
    rw [Mod_eq (by omega) (by omega), Mod_eq (by decide) (by decide), Mod_eq (by decide) (by decide)]
    simp only [Option.bind_some]
    have hk : 0 ≤ i % (l.length : Int) ∧ i % (l.length : Int) < (l.length : Int) := ⟨Int.emod_nonneg _ (by omega), Int.emod_lt_of_pos _ (by omega)⟩
    obtain ⟨y, hy, _⟩ := hok.ok.get hk
    rw [hy]
    have e1 : i64 (1 + p2 % 1000) = 1 + p2 % 1000 := i64_id (by omega) (by omega)
    have hz0 : 0 ≤ p2 % 1000 := by omega
    have hz1 : p2 % 1000 < 1000 := by omega
    simp only [Option.bind_some, e1]
    rw [i64_id (n := -(1 + p2 % 1000)) (by omega) (by omega), i64_id (n := 5 + (1 + p2 % 1000)) (by omega) (by omega), i64_id (n := 3 + (1 + p2 % 1000)) (by omega) (by omega), i64_id (n := 999 + (1 + p2 % 1000)) (by omega) (by omega), i64_id (n := 1 - (1 + p2 % 1000)) (by omega) (by omega)]
    split
    · refine OneRight_j (bad_set hy (fun h => ?_)); have := h.1; simp only [] at this; omega
    · split
      · refine OneRight_j (bad_set hy (fun h => ?_)); have := h.1; simp only [] at this; omega
      · split
        · refine OneRight_j (bad_set hy (fun h => ?_)); have := h.2.1; simp only [] at this; omega
        · split
          · refine OneRight_j (bad_set hy (fun h => ?_)); have := h.2.2.1; simp only [] at this; omega
          · split
            · refine OneRight_j (bad_set hy (fun h => ?_)); have := h.2.2.2; simp only [] at this; omega
            · rw [appI_of (by simp only [List.length_cons, List.length_nil]; omega), Option.bind_some]
              exact OneRight_j (bad_app hy)
end Go.PL
