/- Plain facts for the Lean functions that the program prints: numbers in range, elements, loops. No program in sight. -/
import Derived.Test.YtndkbfbjjnhgoaaGreatDoorSet
import Derived.Laws.BitsLemmas
import Derived.Laws.Bits64
namespace Go.PL
open Go

theorem i64_id {n : Int} (h0 : -9223372036854775808 ≤ n) (h1 : n ≤ 9223372036854775807) : i64 n = n := by
  unfold i64; rw [IntKind.wrap_i64]; omega
theorem u64_id {n : Int} (h0 : 0 ≤ n) (h1 : n ≤ 18446744073709551615) : u64 n = n := by
  unfold u64; rw [IntKind.wrap_u64]; omega
theorem u64_eq (n : Int) : u64 n = n % 18446744073709551616 := by unfold u64; rw [IntKind.wrap_u64]
theorem u64_range (n : Int) : 0 ≤ u64 n ∧ u64 n ≤ 18446744073709551615 := by rw [u64_eq]; omega
theorem i64_range (n : Int) : -9223372036854775808 ≤ i64 n ∧ i64 n ≤ 9223372036854775807 := by unfold i64; rw [IntKind.wrap_i64]; omega

theorem getI_of {α : Type} {l : List α} {i : Int} (h0 : 0 ≤ i) (h1 : i < (l.length : Int)) : ∃ x, getI l i = some x ∧ l[i.toNat]? = some x := by
  have : i.toNat < l.length := by omega
  exact ⟨l[i.toNat], by unfold getI; rw [if_pos h0]; exact List.getElem?_eq_getElem this, List.getElem?_eq_getElem this⟩
theorem getI_nat {α : Type} (l : List α) (k : Nat) : getI l (k : Int) = l[k]? := by unfold getI; rw [if_pos (Int.natCast_nonneg k), Int.toNat_natCast]
theorem getI_at {α : Type} {l : List α} {i : Int} {x : α} (h0 : 0 ≤ i) (h : l[i.toNat]? = some x) : getI l i = some x := by unfold getI; rw [if_pos h0]; exact h

theorem ite_or {b e : Bool} : (if b = true then some true else some e) = some (b || e) := by cases b <;> rfl
theorem ite_and {b e : Bool} : (if b = true then some e else some false) = some (b && e) := by cases b <;> rfl
theorem ite_or' {p : Prop} [Decidable p] {e : Bool} : (if p then some true else some e) = some (decide p || e) := by by_cases h : p <;> simp [h]
theorem ite_and' {p : Prop} [Decidable p] {e : Bool} : (if p then some e else some false) = some (decide p && e) := by by_cases h : p <;> simp [h]

/-- A loop that comes to an end: each round hands back a result that is as it should be, or goes on with less. -/
theorem loopC_total {σ ρ : Type} {f : (σ → Option ρ) → σ → Option ρ} (I : σ → Prop) (μ : σ → Nat) (Q : ρ → Prop)
    (step : ∀ s rec, I s → (∃ r, f rec s = some r ∧ Q r) ∨ ∃ s', f rec s = rec s' ∧ I s' ∧ μ s' < μ s) : ∀ (k : Nat) (s : σ), I s → μ s < k → ∃ r, loopC k f s = some r ∧ Q r
  | 0, _, _, h => absurd h (Nat.not_lt_zero _)
  | k + 1, s, hs, hk => by
    rcases step s (loopC k f) hs with ⟨r, h1, h2⟩ | ⟨s', h1, h2, h3⟩
    · exact ⟨r, h1, h2⟩
    · obtain ⟨r, h4, h5⟩ := loopC_total I μ Q step k s' h2 (by omega)
      exact ⟨r, by show f (loopC k f) s = _; rw [h1, h4], h5⟩
theorem loopC_FU {σ ρ : Type} {f : (σ → Option ρ) → σ → Option ρ} (I : σ → Prop) (μ : σ → Nat) (Q : ρ → Prop) {s : σ} (h0 : I s) (hμ : μ s < 2 ^ 70)
    (step : ∀ s rec, I s → (∃ r, f rec s = some r ∧ Q r) ∨ ∃ s', f rec s = rec s' ∧ I s' ∧ μ s' < μ s) : ∃ r, loopC FU f s = some r ∧ Q r :=
  loopC_total I μ Q step FU s h0 (by unfold FU; exact hμ)
/-- The same where what goes on behind the loop matters: an inner loop whose rounds end by going on with the outer one. -/
theorem loopC_inner {σ ρ : Type} {f : (σ → Option ρ) → σ → Option ρ} (I : σ → Prop) (μ : σ → Nat) (Q : Option ρ → Prop)
    (step : ∀ s rec, I s → Q (f rec s) ∨ ∃ s', f rec s = rec s' ∧ I s' ∧ μ s' < μ s) : ∀ (k : Nat) (s : σ), I s → μ s < k → Q (loopC k f s)
  | 0, _, _, h => absurd h (Nat.not_lt_zero _)
  | k + 1, s, hs, hk => by
    rcases step s (loopC k f) hs with h1 | ⟨s', h1, h2, h3⟩
    · exact h1
    · show Q (f (loopC k f) s)
      rw [h1]
      exact loopC_inner I μ Q step k s' h2 (by omega)
theorem loopC_innerFU {σ ρ : Type} {f : (σ → Option ρ) → σ → Option ρ} (I : σ → Prop) (μ : σ → Nat) (Q : Option ρ → Prop) {s : σ} (h0 : I s) (hμ : μ s < 2 ^ 70)
    (step : ∀ s rec, I s → Q (f rec s) ∨ ∃ s', f rec s = rec s' ∧ I s' ∧ μ s' < μ s) : Q (loopC FU f s) :=
  loopC_inner I μ Q step FU s h0 (by unfold FU; exact hμ)

theorem remI_of {a b : Int} (h : b ≠ 0) : remI a b = some (a.tmod b) := by unfold remI; rw [if_neg h]
theorem quoI_of {a b : Int} (h : b ≠ 0) : quoI a b = some (i64 (a.tdiv b)) := by unfold quoI; rw [if_neg h]
theorem quoU_of {a b : Int} (h : b ≠ 0) : quoU a b = some (u64 (a.tdiv b)) := by unfold quoU; rw [if_neg h]
theorem appI_of {α : Type} {bytes : Nat} {l x : List α} (h : (l.length + x.length) * bytes ≤ 140737488355328) : appI bytes l x = some (l ++ x) := by unfold appI; rw [if_pos h]
theorem sliceI_of {α : Type} {l : List α} {lo hi : Int} (h0 : 0 ≤ lo) (h1 : lo ≤ hi) (h2 : hi ≤ (l.length : Int)) : sliceI l lo hi = some ((l.drop lo.toNat).take (hi.toNat - lo.toNat)) := by
  unfold sliceI; rw [if_pos ⟨h0, h1, h2⟩]
theorem tmod_nonneg {a b : Int} (h : 0 ≤ a) : a.tmod b = a % b := Int.tmod_eq_emod_of_nonneg h
theorem tdiv_nonneg {a b : Int} (h : 0 ≤ a) : a.tdiv b = a / b := Int.tdiv_eq_ediv_of_nonneg h
end Go.PL
