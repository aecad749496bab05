/- Loops over lists by their index; the last element. No program in sight. -/
import Derived.Test.YtndkbfbjjnhgoaaGreatDoorPure
import Derived.Test.YtndkbfbjjnhgoaaGreatDoorF
set_option linter.unusedVariables false
namespace Go.PL
open Go
/-- A loop over a list by its index. -/
theorem loop_list {σ ρ S α : Type} {f : (σ → Option ρ) → σ → Option ρ} (l : List α) (e : S → Int → σ) (I : S → Nat → Prop) (Q : Option ρ → Prop) (hl : l.length < 2 ^ 62)
    (hstep : ∀ rec s (i : Nat) y, i < l.length → l[i]? = some y → I s i → Q (f rec (e s (i : Int))) ∨ ∃ s', f rec (e s (i : Int)) = rec (e s' ((i + 1 : Nat) : Int)) ∧ I s' (i + 1))
    (hfin : ∀ rec s, I s l.length → Q (f rec (e s (l.length : Int)))) (s : S) (h0 : I s 0) : Q (loopC FU f (e s 0)) := by
  have key : ∀ (k : Nat) (s : S) (i : Nat), i ≤ l.length → I s i → l.length - i < k → Q (loopC k f (e s (i : Int))) := by
    intro k
    induction k with
    | zero => intro s i _ _ h; omega
    | succ k ih =>
      intro s i hi hI hk
      show Q (f (loopC k f) (e s (i : Int)))
      by_cases h : i < l.length
      · rcases hstep (loopC k f) s i l[i] h (List.getElem?_eq_getElem h) hI with h1 | ⟨s', h1, h2⟩
        · exact h1
        · rw [h1]; exact ih s' (i + 1) (by omega) h2 (by omega)
      · have : i = l.length := by omega
        subst this
        exact hfin _ _ hI
  have : (0 : Int) = ((0 : Nat) : Int) := rfl
  rw [this]
  exact key FU s 0 (Nat.zero_le _) h0 (by unfold FU; omega)
theorem idx_succ {x : Nat} (h : x < 2 ^ 62) : i64 ((x : Int) + 1) = ((x + 1 : Nat) : Int) := by rw [i64_id (by omega) (by omega)]; simp
theorem getI_ix {α : Type} {l : List α} {i : Nat} {y : α} (h : l[i]? = some y) : getI l (i : Int) = some y := by rw [getI_nat]; exact h
theorem take_ix {α : Type} {l : List α} {i : Nat} {y : α} (h : l[i]? = some y) : l.take (i + 1) = l.take i ++ [y] := by
  have hi : i < l.length := by
    rcases Nat.lt_or_ge i l.length with h1 | h1
    · exact h1
    · rw [List.getElem?_eq_none h1] at h; cases h
  rw [List.take_succ_eq_append_getElem hi]
  rw [List.getElem?_eq_getElem hi] at h
  rw [Option.some.inj h]
/-- The last element of a list that ends in it. -/
theorem last_ix {α : Type} (a : List α) (t : α) (h : a.length < 2 ^ 62) : getI (a ++ [t]) (i64 (((a ++ [t]).length : Int) - 1)) = some t := by
  have : i64 (((a ++ [t]).length : Int) - 1) = ((a.length : Nat) : Int) := by rw [List.length_append]; simp only [List.length_cons, List.length_nil]; rw [i64_id (by omega) (by omega)]; omega
  rw [this, getI_nat]; simp
theorem last_set {α : Type} (a : List α) (t u : α) (h : a.length < 2 ^ 62) : setI (a ++ [t]) (i64 (((a ++ [t]).length : Int) - 1)) u = a ++ [u] := by
  have : i64 (((a ++ [t]).length : Int) - 1) = ((a.length : Nat) : Int) := by rw [List.length_append]; simp only [List.length_cons, List.length_nil]; rw [i64_id (by omega) (by omega)]; omega
  rw [this]; unfold setI; rw [if_pos (Int.natCast_nonneg _)]; simp
theorem ends {α : Type} (l : List α) : l = [] ∨ ∃ a t, l = a ++ [t] := by
  rcases List.eq_nil_or_concat l with h | ⟨a, t, h⟩
  · exact .inl h
  · exact .inr ⟨a, t, by simpa using h⟩

theorem drop_ix {α : Type} {l : List α} {i : Nat} {y : α} (h : l[i]? = some y) : l.drop i = y :: l.drop (i + 1) := by
  have hi : i < l.length := by
    rcases Nat.lt_or_ge i l.length with h1 | h1
    · exact h1
    · rw [List.getElem?_eq_none h1] at h; cases h
  rw [List.getElem?_eq_getElem hi] at h
  rw [List.drop_eq_getElem_cons hi, Option.some.inj h]
theorem foldl_take {α β : Type} {g : β → α → β} {l : List α} {i : Nat} {y : α} {b : β} (h : l[i]? = some y) : (l.take (i + 1)).foldl g b = g ((l.take i).foldl g b) y := by
  rw [take_ix h, List.foldl_append]; rfl
end Go.PL
