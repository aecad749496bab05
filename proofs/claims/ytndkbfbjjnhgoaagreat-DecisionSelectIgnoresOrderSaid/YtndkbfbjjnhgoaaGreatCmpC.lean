/- The order of claims; lists in that order, each once. Plain Lean. -/
import Derived.Test.YtndkbfbjjnhgoaaGreatSortC
import Derived.Test.YtndkbfbjjnhgoaaGreatDec2
set_option linter.unusedSimpArgs false
set_option linter.unusedVariables false
namespace Go.PL
open Go

def sgn (p q : Int) : Int := if p < q then -1 else if q < p then 1 else 0
theorem Compare_int (x y : Int) : cmp_Compare_of_int x y = some (sgn x y) := by
  unfold cmp_Compare_of_int cmp_isNaN_of_int sgn
  simp only [bne_self_eq_false, Option.bind_some, Bool.false_eq_true, if_false, decide_eq_true_eq]
  split
  · simp
  · split <;> simp
def orI : List Int → Int
  | [] => 0
  | x :: r => if x = 0 then orI r else x
theorem sgn_neg (p q : Int) : sgn p q < 0 ↔ p < q := by
  unfold sgn; split
  · omega
  · split <;> omega
theorem sgn_zero (p q : Int) : sgn p q = 0 ↔ p = q := by
  unfold sgn; split
  · omega
  · split <;> omega
theorem orI_cons (x : Int) (r : List Int) : orI (x :: r) < 0 ↔ x < 0 ∨ x = 0 ∧ orI r < 0 := by
  simp only [orI]; split <;> omega
/-- How claims are compared. -/
def cmpC (a b : Claim) : Int := orI [sgn a.Issuer b.Issuer, sgn a.Number b.Number, sgn a.Day b.Day, sgn a.Person b.Person, sgn a.Benefit b.Benefit, sgn a.Ref b.Ref]
theorem cmpC_neg (a b : Claim) : cmpC a b < 0 ↔ a.Issuer < b.Issuer ∨ a.Issuer = b.Issuer ∧ (a.Number < b.Number ∨ a.Number = b.Number ∧ (a.Day < b.Day ∨ a.Day = b.Day ∧ (a.Person < b.Person ∨ a.Person = b.Person ∧ (a.Benefit < b.Benefit ∨ a.Benefit = b.Benefit ∧ a.Ref < b.Ref)))) := by
  unfold cmpC
  simp only [orI_cons, sgn_neg, sgn_zero]
  simp [orI]
theorem Claim_ext {a b : Claim} (h1 : a.Issuer = b.Issuer) (h2 : a.Number = b.Number) (h3 : a.Person = b.Person) (h4 : a.Benefit = b.Benefit) (h5 : a.Ref = b.Ref) (h6 : a.Day = b.Day) : a = b := by
  cases a; cases b; simp_all
theorem cmpC_anti {a b : Claim} (h1 : ¬ cmpC a b < 0) (h2 : ¬ cmpC b a < 0) : a = b := by
  rw [cmpC_neg] at h1 h2
  exact Claim_ext (by omega) (by omega) (by omega) (by omega) (by omega) (by omega)
theorem cmpC_irrefl (a : Claim) : ¬ cmpC a a < 0 := by rw [cmpC_neg]; omega
theorem cmpC_trans {a b c : Claim} (h1 : cmpC a b < 0) (h2 : cmpC b c < 0) : cmpC a c < 0 := by
  rw [cmpC_neg] at *; omega
theorem ordered_cmpC (S : Claim → Prop) : Ordered cmpC S := by
  constructor
  · intro x y _ _; rw [cmpC_neg, cmpC_neg]; omega
  · intro x y z _ _ _; rw [cmpC_neg, cmpC_neg, cmpC_neg]; omega
theorem Or_eq (l : List Int) (hl : l.length ≤ 1000) : cmp_Or_of_int l = some (orI l) := by
  unfold cmp_Or_of_int
  obtain ⟨r, h1, h2⟩ := loopC_FU (f := cmp_Or_of_int_l l) (fun s => ∃ A B, l = A ++ B ∧ s = (A.length : Int) ∧ orI l = orI B) (fun s => l.length - s.toNat) (fun r => r = orI l) (s := 0) ⟨[], l, rfl, rfl, rfl⟩ (by show l.length - _ < _; omega) (by
    rintro s rec ⟨A, B, hAB, rfl, ho⟩
    unfold cmp_Or_of_int_l
    have hlen : l.length = A.length + B.length := by rw [hAB]; simp
    cases B with
    | nil =>
      left
      rw [if_neg (by simp at hlen ⊢; omega)]
      exact ⟨_, rfl, by rw [ho]; rfl⟩
    | cons y B =>
      rw [List.length_cons] at hlen
      have hg : getI l (A.length : Int) = some y := by rw [hAB, getI_nat]; simp
      rw [if_pos (by simp; omega), hg, Option.bind_some]
      by_cases hy : y = 0
      · right
        rw [if_neg (by simp [hy]), i64_id (n := (A.length : Int) + 1) (by omega) (by omega)]
        exact ⟨((A ++ [y]).length : Int), by simp, ⟨A ++ [y], B, by rw [hAB]; simp, rfl, by rw [ho, hy]; rfl⟩, by simp; omega⟩
      · left
        rw [if_pos (by simpa using hy)]
        exact ⟨_, rfl, by rw [ho]; simp [orI, hy]⟩)
  rw [h1, h2]
theorem compare_dec (a b : Claim) : decision_compare a b = some (cmpC a b) := by
  unfold decision_compare
  simp only [Compare_int, Option.bind_some]
  rw [Or_eq _ (by simp)]; rfl
theorem Claim_eqb_iff (a b : Claim) : Claim.eqb a b = true ↔ a = b := by
  unfold Claim.eqb
  simp only [Bool.and_eq_true, beq_iff_eq, Bool.and_true]
  constructor
  · rintro ⟨h1, h2, h3, h4, h5, h6⟩; exact Claim_ext h1 h2 h3 h4 h5 h6
  · rintro rfl; simp
instance : DecidableEq Claim := fun a b => decidable_of_iff _ (Claim_eqb_iff a b)
theorem Claim_eqb (a b : Claim) : Claim.eqb a b = decide (a = b) := by
  rw [Bool.eq_iff_iff, Claim_eqb_iff, decide_eq_true_eq]

/-! ### repetitions -/
/-- A list without the repetitions of its elements right behind them; p: the element ahead. -/
def ddF (p : Claim) : List Claim → List Claim
  | [] => []
  | y :: r => if y = p then ddF p r else y :: ddF y r
def dd : List Claim → List Claim
  | [] => []
  | x :: r => x :: ddF x r
theorem ddF_snoc : ∀ (A : List Claim) (p y z : Claim), ddF p (A ++ [y, z]) = if z = y then ddF p (A ++ [y]) else ddF p (A ++ [y]) ++ [z]
  | [], p, y, z => by
    simp only [List.nil_append, ddF]
    by_cases h1 : y = p <;> by_cases h2 : z = y <;> simp_all
  | x :: A, p, y, z => by
    simp only [List.cons_append, ddF]
    split
    · exact ddF_snoc A p y z
    · rw [ddF_snoc A x y z]; split <;> simp
theorem dd_snoc (A : List Claim) (y z : Claim) : dd (A ++ [y, z]) = if z = y then dd (A ++ [y]) else dd (A ++ [y]) ++ [z] := by
  cases A with
  | nil => simp only [List.nil_append, dd, ddF]; split <;> simp
  | cons x A => simp only [List.cons_append, dd]; rw [ddF_snoc]; split <;> simp
theorem dd_take {l : List Claim} {m : Nat} (h0 : 0 < m) {y z : Claim} (hy : l[m - 1]? = some y) (hz : l[m]? = some z) : dd (l.take (m + 1)) = if z = y then dd (l.take m) else dd (l.take m) ++ [z] := by
  obtain ⟨hm, hz'⟩ := List.getElem?_eq_some_iff.1 hz
  obtain ⟨hm1, hy'⟩ := List.getElem?_eq_some_iff.1 hy
  have e1 : l.take m = l.take (m - 1) ++ [y] := by
    have := List.take_succ_eq_append_getElem (l := l) (i := m - 1) hm1
    rw [show m - 1 + 1 = m by omega, hy'] at this
    exact this
  have e2 : l.take (m + 1) = l.take (m - 1) ++ [y, z] := by
    rw [List.take_succ_eq_append_getElem hm, hz', e1]; simp
  rw [e2, e1, dd_snoc]
theorem ddF_mem : ∀ (r : List Claim) (p x : Claim), x ∈ p :: ddF p r ↔ x ∈ p :: r
  | [], p, x => Iff.rfl
  | y :: r, p, x => by
    simp only [ddF]
    split
    · rename_i h
      rw [ddF_mem r p x, h]; simp
    · have := ddF_mem r y x
      simp only [List.mem_cons] at this ⊢
      constructor
      · rintro (h | h)
        · exact .inl h
        · exact .inr (this.1 h)
      · rintro (h | h)
        · exact .inl h
        · exact .inr (this.2 h)
theorem dd_mem (l : List Claim) (x : Claim) : x ∈ dd l ↔ x ∈ l := by
  cases l with
  | nil => exact Iff.rfl
  | cons y r => exact ddF_mem r y x
theorem ddF_sorted : ∀ (r : List Claim) (p : Claim), (p :: r).Pairwise (Le cmpC) → (p :: ddF p r).Pairwise (fun a b => cmpC a b < 0)
  | [], p, _ => List.pairwise_singleton _ _
  | y :: r, p, h => by
    obtain ⟨h1, h2⟩ := List.pairwise_cons.1 h
    simp only [ddF]
    split
    · rename_i hy
      subst hy
      exact ddF_sorted r y h2
    · rename_i hy
      have h3 := ddF_sorted r y h2
      have hpy : cmpC p y < 0 := by
        by_cases h4 : cmpC p y < 0
        · exact h4
        · exact absurd (cmpC_anti h4 (h1 y (by simp))).symm hy
      refine List.pairwise_cons.2 ⟨fun b hb => ?_, h3⟩
      rcases List.mem_cons.1 hb with hb | hb
      · rw [hb]; exact hpy
      · exact cmpC_trans hpy ((List.pairwise_cons.1 h3).1 b hb)
theorem dd_sorted {l : List Claim} (h : l.Pairwise (Le cmpC)) : (dd l).Pairwise (fun a b => cmpC a b < 0) := by
  cases l with
  | nil => exact List.Pairwise.nil
  | cons y r => exact ddF_sorted r y h
theorem Compact_inner (l : List Claim) (hl : l.length ≤ 1000) (k : Nat) (hk1 : 1 ≤ k) (h : k < l.length) (htk : dd (l.take (k + 1)) = l.take k) (s0 : List Claim) (hsl : s0.length = l.length - k) :
    ∃ r, loopC FU (slices_Compact_of_api_Claim_l2 (k : Int) s0) ((k : Int), 1, l) = some r ∧ r = dd l := by
  refine loopC_FU (f := slices_Compact_of_api_Claim_l2 (k : Int) s0) (fun s => ∃ (k3 k2 : Nat) (cur : List Claim), s = ((k3 : Int), (k2 : Int), cur) ∧ 1 ≤ k2 ∧ k + k2 ≤ l.length ∧ k ≤ k3 ∧ k3 + 1 ≤ k + k2 ∧ cur.length = l.length ∧ cur.take k3 = dd (l.take (k + k2)) ∧ ∀ j, k + k2 - 1 ≤ j → cur[j]? = l[j]?)
    (fun s => l.length - s.2.1.toNat) _ ⟨k, 1, l, rfl, by omega, by omega, by omega, by omega, rfl, htk.symm, fun _ _ => rfl⟩ (by show l.length - _ < _; omega) ?_
  rintro s rec2 ⟨k3, k2, cur, rfl, a1, a2, a3, a4, hcl, hct, hcj⟩
  unfold slices_Compact_of_api_Claim_l2 slices_Compact_of_api_Claim_j
  dsimp only
  by_cases hlt : k + k2 < l.length
  · right
    have hz2 : l[k + k2]? = some l[k + k2] := List.getElem?_eq_getElem hlt
    have hy2 : l[k + k2 - 1]? = some l[k + k2 - 1] := List.getElem?_eq_getElem (by omega)
    have v1 : viewI cur (k : Int) (k2 : Int) = some l[k + k2] := by
      unfold viewI; rw [if_pos (by omega), ← Int.natCast_add, getI_nat, hcj _ (by omega), hz2]
    have e2 : i64 ((k2 : Int) - 1) = ((k2 - 1 : Nat) : Int) := by rw [i64_id (by omega) (by omega)]; omega
    have v2 : viewI cur (k : Int) ((k2 - 1 : Nat) : Int) = some l[k + k2 - 1] := by
      unfold viewI; rw [if_pos (by omega), ← Int.natCast_add, getI_nat, show k + (k2 - 1) = k + k2 - 1 by omega, hcj _ (Nat.le_refl _), hy2]
    have v3 : getI cur (k3 : Int) = some (cur[k3]'(by omega)) := by rw [getI_nat]; exact List.getElem?_eq_getElem _
    have ht2 := dd_take (by omega) hy2 hz2
    have e3 : i64 ((k2 : Int) + 1) = ((k2 + 1 : Nat) : Int) := by rw [i64_id (by omega) (by omega)]; simp
    have e4 : i64 ((k3 : Int) + 1) = ((k3 + 1 : Nat) : Int) := by rw [i64_id (by omega) (by omega)]; simp
    have hd0 : decide ((k2 : Int) < (s0.length : Int)) = true := decide_eq_true (by omega)
    simp only [hd0, if_true, v1, e2, v2, Option.bind_some, Claim_eqb, v3, e3, e4]
    by_cases hq : l[k + k2] = l[k + k2 - 1]
    · rw [if_neg (by simpa using hq)]
      rw [if_pos hq] at ht2
      exact ⟨_, rfl, ⟨k3, k2 + 1, cur, rfl, by omega, by omega, a3, by omega, hcl, by rw [hct, ← ht2]; rfl, fun j hj => hcj j (by omega)⟩, by simp only [Int.toNat_natCast]; omega⟩
    · rw [if_pos (by simpa using hq)]
      rw [if_neg hq] at ht2
      refine ⟨_, rfl, ⟨k3 + 1, k2 + 1, setI cur (k3 : Int) l[k + k2], rfl, by omega, by omega, by omega, by omega, by rw [length_setI]; exact hcl, ?_, fun j hj => ?_⟩, by simp only [Int.toNat_natCast]; omega⟩
      · have : setI cur (k3 : Int) l[k + k2] = cur.set k3 l[k + k2] := by unfold setI; rw [if_pos (by omega), Int.toNat_natCast]
        rw [this, List.take_succ_eq_append_getElem (by rw [List.length_set]; omega)]
        have h5 : (cur.set k3 l[k + k2]).take k3 = cur.take k3 := by rw [List.take_set, List.set_eq_of_length_le (by rw [List.length_take]; omega)]
        rw [h5, hct, show k + (k2 + 1) = k + k2 + 1 by omega, ht2]
        simp
      · have : setI cur (k3 : Int) l[k + k2] = cur.set k3 l[k + k2] := by unfold setI; rw [if_pos (by omega), Int.toNat_natCast]
        rw [this, List.getElem?_set_ne (by omega)]
        exact hcj j (by omega)
  · left
    have hd0 : decide ((k2 : Int) < (s0.length : Int)) = false := decide_eq_false (by omega)
    simp only [hd0, Bool.false_eq_true, if_false]
    have hcc : (clearI (⟨0, 0, 0, 0, 0, 0⟩ : Claim) cur (k3 : Int)).length = cur.length := by unfold clearI; simp; omega
    rw [sliceI_of (by omega) (by omega) (by omega), Option.bind_some, sliceI_of (by omega) (by omega) (by rw [hcc]; omega), Option.bind_some]
    refine ⟨_, rfl, ?_⟩
    have hkk : k + k2 = l.length := by omega
    rw [hkk, List.take_length] at hct
    rw [← hct]
    unfold clearI
    simp only [Int.toNat_natCast, Int.toNat_zero, List.drop_zero, Nat.sub_zero]
    rw [List.take_append_of_le_length (by rw [List.length_take]; omega), List.take_take, Nat.min_self]
theorem Compact_step (l : List Claim) (hl : l.length ≤ 1000) (rec : Int × List Claim → Option (List Claim)) (k : Nat) (hk1 : 1 ≤ k) (h : k < l.length) :
    slices_Compact_of_api_Claim_l rec ((k : Int), l) = if l[k] = l[k - 1] then loopC FU (slices_Compact_of_api_Claim_l2 (k : Int) ((l.drop k).take (l.length - k))) ((k : Int), 1, l) else rec (((k + 1 : Nat) : Int), l) := by
  have hz : getI l (k : Int) = some l[k] := by rw [getI_nat]; exact List.getElem?_eq_getElem h
  have e1 : i64 ((k : Int) - 1) = ((k - 1 : Nat) : Int) := by rw [i64_id (by omega) (by omega)]; omega
  have hy : getI l (i64 ((k : Int) - 1)) = some l[k - 1] := by rw [e1, getI_nat]; exact List.getElem?_eq_getElem (by omega)
  have hs : sliceI l (k : Int) (l.length : Int) = some ((l.drop k).take (l.length - k)) := by rw [sliceI_of (by omega) (by omega) (by omega)]; simp
  have e2 : i64 ((k : Int) + 1) = ((k + 1 : Nat) : Int) := by rw [i64_id (by omega) (by omega)]; simp
  have hd0 : decide ((k : Int) < (l.length : Int)) = true := decide_eq_true (by omega)
  unfold slices_Compact_of_api_Claim_l
  generalize loopC FU = LP
  simp only [hd0, if_true, hz, hy, hs, e2, Option.bind_some, Claim_eqb, decide_eq_true_eq]
theorem Compact_end (l : List Claim) (rec : Int × List Claim → Option (List Claim)) : slices_Compact_of_api_Claim_l rec ((l.length : Int), l) = some l := by
  have hd0 : decide ((l.length : Int) < (l.length : Int)) = false := decide_eq_false (by omega)
  unfold slices_Compact_of_api_Claim_l
  generalize loopC FU = LP
  simp only [hd0, Bool.false_eq_true, if_false]
theorem Compact_eq (l : List Claim) (hl : l.length ≤ 1000) : slices_Compact_of_api_Claim l = some (dd l) := by
  unfold slices_Compact_of_api_Claim
  by_cases h2 : l.length < 2
  · rw [if_pos (by simp; omega)]
    cases l with
    | nil => rfl
    | cons x r =>
      cases r with
      | nil => rfl
      | cons y r => exact absurd h2 (by simp)
  · rw [if_neg (by simp; omega)]
    obtain ⟨r, h1, h3⟩ := loopC_FU (f := slices_Compact_of_api_Claim_l) (fun s => ∃ k : Nat, s = ((k : Int), l) ∧ 1 ≤ k ∧ k ≤ l.length ∧ dd (l.take k) = l.take k) (fun s => l.length - s.1.toNat) (fun r => r = dd l) (s := (1, l)) ⟨1, rfl, by omega, by omega, by
        cases l with
        | nil => rfl
        | cons x r => rfl⟩ (Nat.lt_of_le_of_lt (Nat.sub_le _ _) (Nat.lt_of_le_of_lt hl (by decide))) (by
      rintro s rec ⟨k, rfl, hk1, hk, hd⟩
      by_cases h : k < l.length
      · have htk := dd_take (l := l) (m := k) (by omega) (List.getElem?_eq_getElem (by omega)) (List.getElem?_eq_getElem h)
        rw [Compact_step l hl rec k hk1 h]
        by_cases heq : l[k] = l[k - 1]
        · left
          rw [if_pos heq]
          rw [if_pos heq, hd] at htk
          exact Compact_inner l hl k hk1 h htk _ (by rw [List.length_take, List.length_drop]; omega)
        · right
          rw [if_neg heq]
          rw [if_neg heq, hd] at htk
          refine ⟨_, rfl, ⟨k + 1, rfl, by omega, h, ?_⟩, by simp only [Int.toNat_natCast]; omega⟩
          rw [htk, List.take_succ_eq_append_getElem h]
      · left
        have : k = l.length := by omega
        subst this
        rw [Compact_end]
        rw [List.take_length] at hd
        exact ⟨l, rfl, hd.symm⟩)
    rw [h1, h3]
/-- Whether a claim is valid. -/
def vB (c : Claim) : Bool := (decision_Valid c).getD false
theorem vB_eq (c : Claim) : decision_Valid c = some (vB c) := by
  obtain ⟨v, h, _⟩ := Valid_agree c
  unfold vB; rw [h]; rfl
theorem vB_hand {c : Claim} (h : handOK c) : vB c = true := by unfold vB; rw [valid_hand h]; rfl
/-- What the sorting of claims asks: their order is total. -/
theorem cfO_compare (a b : Claim) : cfO (fun x : Claim × Claim => decision_compare x.1 x.2) a b = cmpC a b := by
  unfold cfO; show (decision_compare a b).getD 0 = _; rw [compare_dec]; rfl
theorem ltOf_compare (a b : Claim) : Go.Proofs.ltOf (cfO (fun x : Claim × Claim => decision_compare x.1 x.2)) a b = decide (cmpC a b < 0) := by
  unfold Go.Proofs.ltOf; rw [cfO_compare]
theorem totO_decision_compare : TotO (fun x : Claim × Claim => decision_compare x.1 x.2) := by
  constructor
  · intro a b; rw [cfO_compare]; exact compare_dec a b
  · constructor
    · intro x; rw [ltOf_compare]; simpa using cmpC_irrefl x
    · intro x y z; simp only [ltOf_compare, decide_eq_true_eq]; exact cmpC_trans
    · intro x y z; simp only [ltOf_compare, decide_eq_false_iff_not]; rw [cmpC_neg, cmpC_neg, cmpC_neg]; omega
  · intro x y; simp only [ltOf_compare, decide_eq_false_iff_not]; exact cmpC_anti
/-- Claims in their order. -/
def srt (l : List Claim) : List Claim := l.mergeSort fun x y => !Go.Proofs.ltOf (cfO (fun x : Claim × Claim => decision_compare x.1 x.2)) y x
theorem srt_perm (l : List Claim) : (srt l).Perm l := List.mergeSort_perm _ _
theorem srt_sorted (l : List Claim) : (srt l).Pairwise (Le cmpC) := by
  have h := List.pairwise_mergeSort (le := fun x y => !Go.Proofs.ltOf (cfO (fun x : Claim × Claim => decision_compare x.1 x.2)) y x) (l := l) (by
    intro a b c; simp only [ltOf_compare, Bool.not_eq_true', decide_eq_false_iff_not]; rw [cmpC_neg, cmpC_neg, cmpC_neg]; omega) (by
    intro a b; simp only [ltOf_compare, Bool.or_eq_true, Bool.not_eq_true', decide_eq_false_iff_not]; rw [cmpC_neg, cmpC_neg]; omega)
  refine h.imp ?_
  intro a b hab
  simpa [ltOf_compare, Le] using hab
theorem SortFunc_eq (l : List Claim) (h : l.length ≤ 1000) : slices_SortFunc_of_api_Claim l (fun x => decision_compare x.1 x.2) = some (srt l) := by
  unfold slices_SortFunc_of_api_Claim sortF
  rw [if_pos (by omega)]; rfl
theorem ddF_len : ∀ (r : List Claim) (p : Claim), (ddF p r).length ≤ r.length := by
  intro r
  induction r with
  | nil => intro p; exact Nat.le_refl _
  | cons y r ih =>
    intro p; simp only [ddF]; split
    · exact Nat.le_succ_of_le (ih p)
    · simp only [List.length_cons]; exact Nat.succ_le_succ (ih y)
theorem dd_len (s : List Claim) : (dd s).length ≤ s.length := by
  cases s with
  | nil => simp [dd]
  | cons x r => have := ddF_len r x; simp only [dd, List.length_cons] at *; omega
theorem sorted_full (l : List Claim) (hb : l.length * 48 ≤ 140737488355328) (hn : (l.filter vB).length ≤ 1000) : decision_sorted l = some (dd (srt (l.filter vB))) := by
  have hloop : ∃ r, loopC FU (decision_sorted_l l) ([], 0) = some r ∧ r = dd (srt (l.filter vB)) := by
    refine loopC_FU (fun s => ∃ x : Nat, s = ((l.take x).filter vB, (x : Int)) ∧ x ≤ l.length) (fun s => l.length - s.2.toNat) _ ⟨0, rfl, Nat.zero_le _⟩ (by show l.length - _ < _; (try unfold FU); omega) ?_
    rintro st rec ⟨x, rfl, hx⟩
    unfold decision_sorted_l decision_sorted_j
    dsimp only
    by_cases h : x < l.length
    · right
      have hg : getI l (x : Int) = some l[x] := by rw [getI_nat]; exact List.getElem?_eq_getElem h
      have htk : (l.take (x + 1)).filter vB = (l.take x).filter vB ++ [l[x]].filter vB := by rw [List.take_succ_eq_append_getElem h, List.filter_append]
      have hfl : ((l.take x).filter vB).length ≤ x := by
        have := List.length_filter_le vB (l.take x)
        rw [List.length_take] at this; omega
      have e1 : i64 ((x : Int) + 1) = ((x + 1 : Nat) : Int) := by rw [i64_id (by omega) (by omega)]; simp
      rw [if_pos (by simp; omega), hg, Option.bind_some, vB_eq, Option.bind_some]
      cases hv : vB l[x] with
      | true =>
        rw [if_pos rfl, appI_of (by simp only [List.length_cons, List.length_nil]; omega), Option.bind_some, e1]
        exact ⟨((l.take (x + 1)).filter vB, ((x + 1 : Nat) : Int)), by rw [htk]; simp [hv], ⟨x + 1, rfl, h⟩, by simp only [Int.toNat_natCast]; omega⟩
      | false =>
        rw [if_neg (by simp), e1]
        exact ⟨((l.take (x + 1)).filter vB, ((x + 1 : Nat) : Int)), by rw [htk]; simp [hv], ⟨x + 1, rfl, h⟩, by simp only [Int.toNat_natCast]; omega⟩
    · left
      have : x = l.length := by omega
      subst this
      rw [if_neg (by simp), List.take_length, SortFunc_eq _ hn, Option.bind_some, Compact_eq _ (by rw [(srt_perm _).length_eq]; exact hn), Option.bind_some]
      exact ⟨_, rfl, rfl⟩
  obtain ⟨r, h1, h2⟩ := hloop
  unfold decision_sorted
  rw [h1, h2]
theorem sorted_props (l : List Claim) (hb : l.length * 48 ≤ 140737488355328) (hn : (l.filter vB).length ≤ 1000) : ∃ q, decision_sorted l = some q ∧ q.Pairwise (fun a b => cmpC a b < 0) ∧ (∀ c, c ∈ q ↔ c ∈ l ∧ vB c = true) ∧ q.length ≤ (l.filter vB).length := by
  refine ⟨_, sorted_full l hb hn, dd_sorted (srt_sorted _), fun c => by rw [dd_mem, (srt_perm _).mem_iff, List.mem_filter], ?_⟩
  have := dd_len (srt (l.filter vB))
  rwa [(srt_perm _).length_eq] at this
theorem sorted_eq (l : List Claim) (hl : l.length ≤ 12) (hok : ∀ c ∈ l, handOK c) : ∃ q, decision_sorted l = some q ∧ q.Pairwise (fun a b => cmpC a b < 0) ∧ (∀ c, c ∈ q ↔ c ∈ l) ∧ q.length ≤ 12 := by
  have h1 := List.length_filter_le vB l
  obtain ⟨q, a, b, c, d⟩ := sorted_props l (by omega) (by omega)
  exact ⟨q, a, b, fun x => by rw [c]; exact ⟨fun h => h.1, fun h => ⟨h, vB_hand (hok x h)⟩⟩, by omega⟩
/-- Lists in that order of the same claims are the same. -/
theorem sorted_uniq {a b : List Claim} (ha : a.Pairwise (fun x y => cmpC x y < 0)) (hb : b.Pairwise (fun x y => cmpC x y < 0)) (h : ∀ c, c ∈ a ↔ c ∈ b) : a = b := by
  have na : a.Nodup := ha.imp fun {x y} h e => by subst e; exact cmpC_irrefl x h
  have nb : b.Nodup := hb.imp fun {x y} h e => by subst e; exact cmpC_irrefl x h
  have hp : a.Perm b := (List.perm_ext_iff_of_nodup na nb).2 h
  exact List.Perm.eq_of_pairwise (le := fun x y => cmpC x y < 0) (fun x y _ _ h1 h2 => absurd (cmpC_trans h1 h2) (cmpC_irrefl x)) ha hb hp
end Go.PL
