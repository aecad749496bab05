/- pensionref12.Merge of one list: the same list as career.Merge's. No program in sight. -/
import Derived.Test.YtndkbfbjjnhgoaaGreatDoorMrg
set_option linter.unusedVariables false
namespace Go.PL
open Go

theorem ID_eq {a b : api_Fact} (ha : vld a = true) (hb : vld b = true) : ∃ c, pensionref12_ID a b = some c ∧ (0 < c ↔ idLt b a) ∧ (c = 0 ↔ a.Issuer = b.Issuer ∧ a.Number = b.Number) := by
  have va := vld_version ha
  have vb := vld_version hb
  unfold pensionref12_ID
  by_cases h : a.Issuer = b.Issuer
  · rw [if_neg (by simp [h]), i64_id (by omega) (by omega)]
    refine ⟨_, rfl, ?_, ?_⟩
    · unfold idLt; omega
    · omega
  · rw [if_pos (by simpa using h), i64_id (by omega) (by omega)]
    refine ⟨_, rfl, ?_, ?_⟩
    · unfold idLt; omega
    · omega
set_option maxHeartbeats 1000000 in
theorem insR (x : List api_Fact) (x2 : Int) (rec : ((List api_Fact) × Int) → Option (List api_Fact)) (v : api_Fact) (hv : vld v = true) (hx : ∀ u ∈ x, vld u = true) (hs : x.Pairwise idLt) (hl : x.length ≤ 2 ^ 20) :
    loopC FU (pensionref12_Merge_l2 x x2 rec v) (x.length : Int) = rec (insF x v, i64 (x2 + 1)) := by
  refine loopC_innerFU (f := pensionref12_Merge_l2 x x2 rec v) (fun st => ∃ k : Nat, st = (k : Int) ∧ k ≤ x.length ∧ ∀ u ∈ x.drop k, idLt v u) (fun st => st.toNat) (fun o => o = rec (insF x v, i64 (x2 + 1))) ⟨x.length, rfl, Nat.le_refl _, by simp⟩ (by simp only [Int.toNat_natCast]; omega) ?_
  rintro st rec2 ⟨k, rfl, hk, hd⟩
  unfold pensionref12_Merge_l2 pensionref12_Merge_j
  have put : (∀ u ∈ x.take k, idLt u v) → (Option.bind (sliceI x 0 (k : Int)) fun s => Option.bind (appI 112 [] s) fun l => Option.bind (appI 112 l [v]) fun l2 => Option.bind (sliceI x (k : Int) (x.length : Int)) fun s2 => Option.bind (appI 112 l2 s2) fun l3 => rec (l3, i64 (x2 + 1))) = rec (insF x v, i64 (x2 + 1)) := by
    intro hlo
    have ed : (x.drop k).take (x.length - k) = x.drop k := List.take_of_length_le (by simp)
    have ei : insF x v = x.take k ++ v :: x.drop k := by
      have := insF_app (p := x.take k) (q := x.drop k) hlo
      rw [List.take_append_drop, insF_hi hd] at this
      exact this
    rw [sliceI_of (by omega) (by omega) (by omega), Option.bind_some, appI_of (by simp; omega), Option.bind_some, appI_of (by simp; omega), Option.bind_some, sliceI_of (by omega) (by omega) (by omega), Option.bind_some, appI_of (by simp; omega), Option.bind_some, ei]
    simp only [Int.toNat_natCast, List.nil_append, Int.toNat_zero, Nat.sub_zero, List.drop_zero]
    rw [ed]
    simp
  cases k with
  | zero =>
    left
    rw [if_neg (by simp), Option.bind_some, if_neg (by simp), if_neg (by simp), Option.bind_some, if_neg (by simp)]
    exact put (by simp)
  | succ k =>
    obtain ⟨y, e⟩ : ∃ y, x[k]? = some y := ⟨_, List.getElem?_eq_getElem (by omega)⟩
    have ei : i64 (((k + 1 : Nat) : Int) - 1) = (k : Int) := by rw [i64_id (by omega) (by omega)]; omega
    have hyv := hx y (List.mem_of_getElem? e)
    obtain ⟨c, hc, c1, c2⟩ := ID_eq hyv hv
    have hlow : ∀ u ∈ x.take k, idLt u y := by
      have := hs.sublist (List.take_sublist (k + 1) x)
      rw [take_ix e, List.pairwise_append] at this
      exact fun u hu => this.2.2 u hu y (List.mem_singleton.2 rfl)
    rw [if_pos (by simp), if_pos (by simp), ei, getI_ix e]
    simp only [Option.bind_some]
    rw [hc]
    simp only [Option.bind_some]
    by_cases h1 : 0 < c
    · right
      rw [if_pos (by simpa using h1)]
      refine ⟨_, rfl, ⟨k, rfl, by omega, fun u hu => ?_⟩, by simp only [Int.toNat_natCast]; omega⟩
      rw [drop_ix e] at hu
      rcases List.mem_cons.1 hu with h | h
      · rw [h]; exact c1.1 h1
      · exact hd u h
    · left
      rw [if_neg (by simpa using h1)]
      by_cases h2 : c = 0
      · rw [if_pos (by simpa using h2)]
        obtain ⟨i1, i2⟩ := c2.1 h2
        rw [Less_ref hyv hv i1 i2, Option.bind_some]
        have hlo : ∀ u ∈ x.take k, idLt u v := fun u hu => by have := hlow u hu; unfold idLt at *; omega
        have ex : x = x.take k ++ y :: x.drop (k + 1) := by
          have := (List.take_append_drop k x).symm
          rwa [drop_ix e] at this
        have ei : insF x v = x.take k ++ (if lessB y v = true then v else y) :: x.drop (k + 1) := by
          have := insF_app (p := x.take k) (q := y :: x.drop (k + 1)) hlo
          rw [← ex, insF_eq i1 i2] at this
          exact this
        cases hb : lessB y v with
        | true =>
          rw [if_pos rfl, ei, hb, if_pos rfl]
          congr 2
          unfold setI
          rw [if_pos (Int.natCast_nonneg _), Int.toNat_natCast]
          have hk' : (x.take k).length = k := by rw [List.length_take]; omega
          rw [List.set_eq_take_append_cons_drop, if_pos (by omega)]
        | false =>
          rw [if_neg (by simp), ei, hb, if_neg (by simp), ← ex]
      · rw [if_neg (by simpa using h2)]
        refine put fun u hu => ?_
        have hyl : idLt y v := by
          have n1 : ¬ idLt v y := fun h => h1 (c1.2 h)
          have n2 : ¬ (y.Issuer = v.Issuer ∧ y.Number = v.Number) := fun h => h2 (c2.2 h)
          unfold idLt at *; omega
        rw [take_ix e] at hu
        rcases List.mem_append.1 hu with h | h
        · exact idLt_trans (hlow u h) hyl
        · rw [List.mem_singleton] at h; rw [h]; exact hyl
theorem Merge_ref (l : List api_Fact) (hl : l.length ≤ 2 ^ 20) : pensionref12_Merge l [] = some (mrgF l) := by
  unfold pensionref12_Merge
  refine loop_list (f := pensionref12_Merge_l l []) l (fun s i => (s, i)) (fun s i => s = mrgF (l.take i)) (fun o => o = some (mrgF l)) (by omega) ?_ ?_ [] (by simp [mrgF])
  · rintro rec s i y hi hy rfl
    right
    refine ⟨_, ?_, rfl⟩
    have ho := mrgF_ok (l.take i)
    rw [List.length_take] at ho
    unfold pensionref12_Merge_l pensionref12_Merge_j2 pensionref12_Merge_j
    dsimp only
    rw [List.length_nil, i64_id (by omega) (by omega), if_pos (by simp; omega), if_pos (by simp; omega), getI_ix hy, Option.bind_some, ref_valid, Option.bind_some, take_ix hy, mrgF_snoc]
    cases hv : vld y with
    | false => rw [if_pos (by rfl), if_neg (by simp), idx_succ (by omega)]
    | true => rw [if_neg (by simp), if_pos rfl, insR _ _ _ _ hv ho.1 ho.2.1 (by omega), idx_succ (by omega)]
  · rintro rec s rfl
    unfold pensionref12_Merge_l
    dsimp only
    rw [List.length_nil, i64_id (by omega) (by omega), if_neg (by simp), List.take_length]
end Go.PL
