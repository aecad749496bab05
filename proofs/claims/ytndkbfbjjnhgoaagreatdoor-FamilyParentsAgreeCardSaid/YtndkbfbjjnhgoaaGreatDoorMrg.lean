/- career.Merge of one list, and pensionref12.Merge: alike. No program in sight. -/
import Derived.Test.YtndkbfbjjnhgoaaGreatDoorLss
set_option linter.unusedVariables false
namespace Go.PL
open Go

def idLt (a b : api_Fact) : Prop := a.Issuer < b.Issuer ∨ (a.Issuer = b.Issuer ∧ a.Number < b.Number)
instance (a b : api_Fact) : Decidable (idLt a b) := by unfold idLt; exact inferInstance
def insF : List api_Fact → api_Fact → List api_Fact
  | [], f => [f]
  | a :: t, f => if idLt a f then a :: insF t f else if idLt f a then f :: a :: t else (if lessB a f = true then f else a) :: t
theorem insF_len (f : api_Fact) : ∀ l, (insF l f).length ≤ l.length + 1
  | [] => Nat.le_refl _
  | a :: t => by
    have := insF_len f t
    unfold insF
    split
    · simp; omega
    · split <;> simp
theorem insF_mem {f u : api_Fact} : ∀ {l : List api_Fact}, u ∈ insF l f → u ∈ l ∨ u = f
  | [], h => by rw [insF, List.mem_singleton] at h; exact .inr h
  | a :: t, h => by
    unfold insF at h
    split at h
    · rcases List.mem_cons.1 h with h | h
      · exact .inl (h ▸ List.mem_cons_self ..)
      · exact (insF_mem h).imp (List.mem_cons_of_mem _) id
    · split at h
      · rcases List.mem_cons.1 h with h | h
        · exact .inr h
        · exact .inl h
      · rcases List.mem_cons.1 h with h | h
        · split at h
          · exact .inr h
          · exact .inl (h ▸ List.mem_cons_self ..)
        · exact .inl (List.mem_cons_of_mem _ h)
theorem idLt_trans {a b c : api_Fact} (h1 : idLt a b) (h2 : idLt b c) : idLt a c := by unfold idLt at *; omega
theorem insF_srt {f : api_Fact} : ∀ {l : List api_Fact}, l.Pairwise idLt → (insF l f).Pairwise idLt
  | [], _ => List.pairwise_singleton _ _
  | a :: t, h => by
    obtain ⟨h1, h2⟩ := List.pairwise_cons.1 h
    unfold insF
    split
    · rename_i hc
      refine List.pairwise_cons.2 ⟨fun u hu => ?_, insF_srt h2⟩
      rcases insF_mem hu with h | h
      · exact h1 u h
      · rw [h]; exact hc
    · rename_i hn
      split
      · rename_i hc
        refine List.pairwise_cons.2 ⟨fun u hu => ?_, h⟩
        rcases List.mem_cons.1 hu with h | h
        · rw [h]; exact hc
        · exact idLt_trans hc (h1 u h)
      · rename_i hm
        refine List.pairwise_cons.2 ⟨fun u hu => ?_, h2⟩
        have := h1 u hu
        split
        · unfold idLt at *; omega
        · exact this
theorem insF_app {f : api_Fact} {q : List api_Fact} : ∀ {p : List api_Fact}, (∀ u ∈ p, idLt u f) → insF (p ++ q) f = p ++ insF q f
  | [], _ => rfl
  | a :: p, h => by
    rw [List.cons_append, List.cons_append, ← insF_app (p := p) fun u hu => h u (List.mem_cons_of_mem _ hu)]
    show (if idLt a f then _ else _) = _
    rw [if_pos (h a (List.mem_cons_self ..))]
theorem insF_hi {f : api_Fact} {q : List api_Fact} (h : ∀ u ∈ q, idLt f u) : insF q f = f :: q := by
  cases q with
  | nil => rfl
  | cons a t =>
    have := h a (List.mem_cons_self ..)
    unfold insF
    rw [if_neg (by unfold idLt at *; omega), if_pos this]
theorem insF_eq {f a : api_Fact} {q : List api_Fact} (h1 : a.Issuer = f.Issuer) (h2 : a.Number = f.Number) : insF (a :: q) f = (if lessB a f = true then f else a) :: q := by
  unfold insF
  rw [if_neg (by unfold idLt; omega), if_neg (by unfold idLt; omega)]

/-! ### the program's -/
theorem Cmp_eq (x y : Int) : cmp_Compare_of_int x y = some (if x < y then -1 else if y < x then 1 else 0) := by
  unfold cmp_Compare_of_int cmp_isNaN_of_int
  simp only [bne_self_eq_false, Option.bind_some, Bool.false_eq_true, if_false, decide_eq_true_eq]
  split
  · rfl
  · split <;> rfl
theorem byId_eq (a b : api_Fact) : career_byIdentity a b = some (if idLt a b then -1 else if idLt b a then 1 else 0) := by
  have hor : ∀ x y : Int, cmp_Or_of_int [x, y] = some (if x ≠ 0 then x else y) := by
    intro x y
    unfold cmp_Or_of_int
    refine loop_list (f := cmp_Or_of_int_l [x, y]) [x, y] (fun (_ : Unit) i => i) (fun _ i => (1 ≤ i → x = 0) ∧ (2 ≤ i → y = 0)) (fun o => o = some (if x ≠ 0 then x else y)) (by simp) ?_ ?_ () ⟨fun h => by omega, fun h => by omega⟩
    · rintro rec _ i v hi hv ⟨h1, h2⟩
      unfold cmp_Or_of_int_l
      rw [if_pos (by simp at hi ⊢; omega), getI_ix hv, Option.bind_some, idx_succ (by simp at hi; omega)]
      simp at hi
      have : i = 0 ∨ i = 1 := by omega
      rcases this with rfl | rfl
      · simp at hv; subst hv
        by_cases hx : x = 0
        · right; rw [if_neg (by simp [hx])]; exact ⟨(), rfl, fun _ => hx, fun h => by omega⟩
        · left; rw [if_pos (by simp [hx]), if_pos hx]
      · simp at hv; subst hv
        have hx := h1 (Nat.le_refl _)
        by_cases hy : y = 0
        · right; rw [if_neg (by simp [hy])]; exact ⟨(), rfl, fun _ => hx, fun _ => hy⟩
        · left; rw [if_pos (by simp [hy]), if_neg (by simp [hx])]
    · rintro rec _ ⟨h1, h2⟩
      have hx := h1 (by simp)
      have hy := h2 (by simp)
      unfold cmp_Or_of_int_l
      rw [if_neg (by simp), hx, hy]; rfl
  unfold career_byIdentity
  rw [Cmp_eq, Option.bind_some, Cmp_eq, Option.bind_some, hor, Option.bind_some]
  congr 1
  unfold idLt
  by_cases h1 : a.Issuer < b.Issuer
  · simp [h1]
  · by_cases h2 : b.Issuer < a.Issuer
    · have : ¬ a.Issuer = b.Issuer := by omega
      have : ¬ b.Issuer = a.Issuer := by omega
      simp [*]
    · have e : a.Issuer = b.Issuer := by omega
      simp [e]
theorem greater_eq {a b : api_Fact} (ha : vld a = true) (hb : vld b = true) : career_greater a b = some (if lessB a b = true then b else a) := by
  unfold career_greater
  rw [Less_prog ha hb, Option.bind_some]
  split <;> rfl
def mrgL := career_merge_of_api_Fact_l (fun x => career_byIdentity x.1 x.2) (fun x => career_greater x.1 x.2)
theorem mrg_nil (k : Nat) (d x : List api_Fact) (hl : x.length + d.length ≤ 2 ^ 30) : loopC (k + 1) mrgL (d, [], x) = some (x ++ d) := by
  show mrgL (loopC k mrgL) (d, [], x) = _
  unfold mrgL career_merge_of_api_Fact_l
  dsimp only
  rw [if_neg (by simp), appI_of (by omega), Option.bind_some, appI_of (by simp; omega), Option.bind_some, List.append_nil]
theorem mrg_one {f : api_Fact} (hf : vld f = true) : ∀ (d x : List api_Fact) (k : Nat), (∀ u ∈ d, vld u = true) → x.length + d.length ≤ 2 ^ 29 → d.length + 2 ≤ k → loopC k mrgL (d, [f], x) = some (x ++ insF d f)
  | [], x, k, _, hl, hk => by
    obtain ⟨k, rfl⟩ : ∃ j, k = j + 1 := ⟨k - 1, by omega⟩
    show mrgL (loopC k mrgL) ([], [f], x) = _
    unfold mrgL career_merge_of_api_Fact_l
    dsimp only
    rw [if_neg (by simp), appI_of (by simp at hl ⊢; omega), Option.bind_some, appI_of (by simp at hl ⊢; omega), Option.bind_some, List.append_nil]; rfl
  | a :: d, x, k, hd, hl, hk => by
    obtain ⟨k, rfl⟩ : ∃ j, k = j + 1 := ⟨k - 1, by omega⟩
    simp only [List.length_cons] at hl hk
    have ha := hd a (List.mem_cons_self ..)
    have hd' : ∀ u ∈ d, vld u = true := fun u hu => hd u (List.mem_cons_of_mem _ hu)
    have s1 : sliceI (a :: d) 1 ((a :: d).length : Int) = some d := by
      rw [sliceI_of (by omega) (by simp; omega) (Int.le_refl _)]; simp
    have s2 : sliceI [f] 1 (([f] : List api_Fact).length : Int) = some [] := by
      rw [sliceI_of (by omega) (by simp) (Int.le_refl _)]; rfl
    have ih := mrg_one hf d (x ++ [a]) k hd' (by simp; omega) (by omega)
    show mrgL (loopC k mrgL) (a :: d, [f], x) = _
    generalize hLP : loopC k mrgL = LP at ih
    unfold mrgL career_merge_of_api_Fact_l
    dsimp only
    rw [if_pos (by simp), show getI (a :: d) 0 = some a from rfl, Option.bind_some, show getI [f] 0 = some f from rfl, Option.bind_some, byId_eq, Option.bind_some]
    unfold insF
    by_cases h1 : idLt a f
    · rw [if_pos h1, if_pos h1, if_pos (by decide), Option.bind_some, appI_of (by simp; omega), Option.bind_some, s1, Option.bind_some, ih]; simp
    · rw [if_neg h1, if_neg h1]
      by_cases h2 : idLt f a
      · rw [if_pos h2, if_pos h2, if_neg (by decide), if_pos (by decide), Option.bind_some, appI_of (by simp; omega), Option.bind_some, s2, Option.bind_some, ← hLP]
        obtain ⟨k, rfl⟩ : ∃ j, k = j + 1 := ⟨k - 1, by omega⟩
        rw [mrg_nil k (a :: d) (x ++ [f]) (by simp; omega)]; simp
      · rw [if_neg h2, if_neg h2, if_neg (by decide), if_neg (by decide)]
        simp only [Option.bind_some]
        rw [greater_eq ha hf, Option.bind_some, appI_of (by simp; omega), Option.bind_some, s1, Option.bind_some, s2, Option.bind_some, ← hLP]
        obtain ⟨k, rfl⟩ : ∃ j, k = j + 1 := ⟨k - 1, by omega⟩
        rw [mrg_nil k d _ (by simp; omega)]; simp
def mrgF (l : List api_Fact) : List api_Fact := (l.filter vld).foldl insF []
theorem foldIns_ok : ∀ (l out : List api_Fact), (∀ u ∈ l, vld u = true) → (∀ u ∈ out, vld u = true) → out.Pairwise idLt → (∀ u ∈ l.foldl insF out, vld u = true) ∧ (l.foldl insF out).Pairwise idLt ∧ (l.foldl insF out).length ≤ out.length + l.length
  | [], out, _, h2, h3 => ⟨h2, h3, by simp⟩
  | f :: l, out, h1, h2, h3 => by
    have := foldIns_ok l (insF out f) (fun u hu => h1 u (List.mem_cons_of_mem _ hu)) (fun u hu => (insF_mem hu).elim (h2 u) (fun e => e ▸ h1 f (List.mem_cons_self ..))) (insF_srt h3)
    have hl := insF_len f out
    refine ⟨this.1, this.2.1, ?_⟩
    have := this.2.2
    simp only [List.foldl_cons, List.length_cons] at this ⊢; omega
theorem mrgF_ok (l : List api_Fact) : (∀ u ∈ mrgF l, vld u = true) ∧ (mrgF l).Pairwise idLt ∧ (mrgF l).length ≤ l.length := by
  have := foldIns_ok (l.filter vld) [] (fun u hu => (List.mem_filter.1 hu).2) (fun u h => (by cases h)) .nil
  refine ⟨this.1, this.2.1, ?_⟩
  have h2 := List.length_filter_le vld l
  have := this.2.2
  simp only [List.length_nil] at this
  unfold mrgF; omega
theorem mrgF_snoc (l : List api_Fact) (y : api_Fact) : mrgF (l ++ [y]) = if vld y = true then insF (mrgF l) y else mrgF l := by
  unfold mrgF
  rw [List.filter_append, List.foldl_append]
  cases h : vld y <;> simp [h]
theorem ascending_eq (l : List api_Fact) (hl : l.length ≤ 2 ^ 20) : career_ascending l = some (mrgF l) := by
  unfold career_ascending
  refine loop_list (f := career_ascending_l l) l (fun s i => (s, i)) (fun s i => s = mrgF (l.take i)) (fun o => o = some (mrgF l)) (by omega) ?_ ?_ [] (by simp [mrgF])
  · rintro rec s i y hi hy rfl
    right
    refine ⟨_, ?_, rfl⟩
    have ho := mrgF_ok (l.take i)
    rw [List.length_take] at ho
    unfold career_ascending_l career_ascending_j
    dsimp only
    rw [if_pos (by simp; omega), getI_ix hy, Option.bind_some, fact_valid_eq, Option.bind_some, idx_succ (by omega), take_ix hy, mrgF_snoc]
    cases hv : vld y with
    | false => rw [if_neg (by simp), if_neg (by simp)]
    | true =>
      rw [if_pos rfl, if_pos rfl]
      have hm : career_merge_of_api_Fact (mrgF (l.take i)) [y] (fun x => career_byIdentity x.1 x.2) (fun x => career_greater x.1 x.2) = some (insF (mrgF (l.take i)) y) := by
        have := mrg_one hv (mrgF (l.take i)) [] FU ho.1 (by simp; omega) (by unfold FU; omega)
        rw [List.nil_append] at this; exact this
      rw [hm, Option.bind_some]
  · rintro rec s rfl
    unfold career_ascending_l
    dsimp only
    rw [if_neg (by simp), List.take_length]
theorem Merge_prog (l : List api_Fact) (hl : l.length ≤ 2 ^ 20) : career_Merge l [] = some (mrgF l) := by
  have ho := mrgF_ok l
  unfold career_Merge
  rw [ascending_eq l hl, Option.bind_some, ascending_eq [] (by simp), Option.bind_some]
  have hm : career_merge_of_api_Fact (mrgF l) (mrgF []) (fun x => career_byIdentity x.1 x.2) (fun x => career_greater x.1 x.2) = some (mrgF l) := by
    have e : FU = 1180591620717411303423 + 1 := rfl
    have := mrg_nil 1180591620717411303423 (mrgF l) [] (by simp; omega)
    rw [← e] at this
    exact this
  rw [hm]; rfl
end Go.PL
