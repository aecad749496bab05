/- The sequence of rights in the order of priority, and what it pays: shared by the laws of the payments. Plain Lean. -/
import Derived.Test.YtcgfjcpggbcloaaDoorRates
set_option linter.unusedSimpArgs false
set_option linter.unusedVariables false
namespace Go.PL
open Go

theorem state_ne {l : List Right} (hl : rightsOK l) {i k : Int} {a b : Right} (ha : getI l i = some a) (hb : getI l k = some b) (hne : i ≠ k) : a.State ≠ b.State := by
  obtain ⟨i0, i1, ha2⟩ := getI_lt ha
  obtain ⟨k0, k1, hb2⟩ := getI_lt hb
  rcases Nat.lt_or_ge i.toNat k.toNat with h | h
  · obtain ⟨z, hz, _, h3⟩ := hl.2 k.toNat (by omega)
    rw [hb2] at hz; cases hz
    exact h3 i.toNat a h ha2
  · obtain ⟨z, hz, _, h3⟩ := hl.2 i.toNat (by omega)
    rw [ha2] at hz; cases hz
    exact fun e => h3 k.toNat b (by omega) hb2 e.symm
theorem upTo_nodup (n : Nat) : (upTo n).Nodup := by
  unfold upTo
  rw [List.nodup_iff_pairwise_ne, List.pairwise_map]
  have := List.nodup_range (n := n)
  rw [List.nodup_iff_pairwise_ne] at this
  exact this.imp fun h e => h (by omega)
theorem Le_anti {t : List Rate} {home m : Int} {l : List Right} (hl : rightsOK l) {i k : Int} (hi : 0 ≤ i ∧ i < (l.length : Int)) (hk : 0 ≤ k ∧ k < (l.length : Int)) (h1 : Le (cmpI t home m l) i k) (h2 : Le (cmpI t home m l) k i) : i = k := by
  obtain ⟨a, ha, _⟩ := hl.get hi
  obtain ⟨b, hb, _⟩ := hl.get hk
  by_cases h : i = k
  · exact h
  · exfalso
    have hs := state_ne hl ha hb h
    unfold Le at h1 h2
    rw [cmpI_of hb ha, cmpR_neg] at h1
    rw [cmpI_of ha hb, cmpR_neg] at h2
    have := wnum t m a * wden t m b
    omega
/-- The months and the homes that the statements are about. -/
theorem mod_month (m : Int) : pensionplain_Mod m 2400 = some (m % 2400) := Mod_eq (by decide) (by decide)
theorem mod_home (h : Int) : pensionplain_Mod h 8 = some (h % 8) := Mod_eq (by decide) (by decide)

/-- The rights that indices name. -/
def rightsAt (l : List Right) (o : List Int) : List Right := o.filterMap (getI l)
theorem rightsAt_cons {l : List Right} {k : Int} {q : Right} (h : getI l k = some q) (o : List Int) : rightsAt l (k :: o) = q :: rightsAt l o := by
  unfold rightsAt; rw [List.filterMap_cons_some h]
theorem rightsAt_append (l : List Right) (a b : List Int) : rightsAt l (a ++ b) = rightsAt l a ++ rightsAt l b := by
  unfold rightsAt; rw [List.filterMap_append]
theorem rightsAt_upTo (l : List Right) : rightsAt l (upTo l.length) = l := by
  have key : ∀ n, n ≤ l.length → rightsAt l (upTo n) = l.take n := by
    intro n
    induction n with
    | zero => intro _; rfl
    | succ n ih =>
      intro hn
      have hg : getI l (n : Int) = some l[n] := by rw [getI_nat]; exact List.getElem?_eq_getElem (by omega)
      rw [upTo_succ, rightsAt_append, ih (by omega), rightsAt_cons hg, List.take_succ_eq_append_getElem (by omega)]
      rfl
  rw [key _ (Nat.le_refl _), List.take_length]
def mostR (t : List Rate) (m : Int) (r : Right) : Int → List Right → Int
  | acc, [] => acc
  | acc, q :: qs => mostR t m r (if (cvt t m q r).2 = 0 then max acc (cvt t m q r).1 else acc) qs
def payR (t : List Rate) (m : Int) (pre : List Right) (r : Right) : FamilyPay := ⟨r.State, r.Currency, max 0 (i64 (r.Amount - mostR t m r 0 pre)), (pre.length : Int) == 0⟩
def paysR (t : List Rate) (m : Int) : List Right → List Right → List FamilyPay
  | _, [] => []
  | pre, r :: rs => payR t m pre r :: paysR t m (pre ++ [r]) rs
theorem mostOf_eq (t : List Rate) (m : Int) (l : List Right) (r : Right) : ∀ (o : List Int) (acc : Int), (∀ k ∈ o, 0 ≤ k ∧ k < (l.length : Int)) → mostOf t m l r acc o = mostR t m r acc (rightsAt l o)
  | [], acc, _ => rfl
  | k :: ks, acc, h => by
    obtain ⟨q, hq, _⟩ := getI_of (h k (by simp)).1 (h k (by simp)).2
    rw [rightsAt_cons hq]
    simp only [mostOf, mostR, hq]
    exact mostOf_eq t m l r ks _ (fun z hz => h z (by simp [hz]))
theorem rightsAt_length (l : List Right) : ∀ (o : List Int), (∀ k ∈ o, 0 ≤ k ∧ k < (l.length : Int)) → (rightsAt l o).length = o.length
  | [], _ => rfl
  | k :: ks, h => by
    obtain ⟨q, hq, _⟩ := getI_of (h k (by simp)).1 (h k (by simp)).2
    rw [rightsAt_cons hq, List.length_cons, List.length_cons, rightsAt_length l ks (fun z hz => h z (by simp [hz]))]
theorem paysOf_eq (t : List Rate) (m : Int) (l : List Right) : ∀ (o pre : List Int), (∀ k ∈ o, 0 ≤ k ∧ k < (l.length : Int)) → (∀ k ∈ pre, 0 ≤ k ∧ k < (l.length : Int)) → paysOf t m l pre o = paysR t m (rightsAt l pre) (rightsAt l o)
  | [], pre, _, _ => rfl
  | k :: ks, pre, h, hp => by
    obtain ⟨q, hq, _⟩ := getI_of (h k (by simp)).1 (h k (by simp)).2
    have hk1 : ∀ z ∈ pre ++ [k], 0 ≤ z ∧ z < (l.length : Int) := fun z hz => by
      rcases List.mem_append.1 hz with hz | hz
      · exact hp z hz
      · rw [List.mem_singleton.1 hz]; exact h k (by simp)
    rw [rightsAt_cons hq]
    simp only [paysOf, paysR, hq, List.singleton_append]
    rw [paysOf_eq t m l ks (pre ++ [k]) (fun z hz => h z (by simp [hz])) hk1, rightsAt_append, rightsAt_cons hq]
    congr 1
    unfold payOf payR
    rw [mostOf_eq t m l q pre 0 hp, rightsAt_length l pre hp]
theorem paysR_length (t : List Rate) (m : Int) : ∀ (rs pre : List Right), (paysR t m pre rs).length = rs.length
  | [], _ => rfl
  | r :: rs, pre => by simp only [paysR, List.length_cons, paysR_length t m rs]
theorem paysR_get (t : List Rate) (m : Int) : ∀ (rs pre : List Right) (x : Nat), (paysR t m pre rs)[x]? = (rs[x]?).map fun r => payR t m (pre ++ rs.take x) r
  | [], pre, x => by simp [paysR]
  | r :: rs, pre, 0 => by simp [paysR]
  | r :: rs, pre, x + 1 => by
    simp only [paysR, List.getElem?_cons_succ, paysR_get t m rs (pre ++ [r]) x, List.take_succ_cons, List.append_assoc, List.singleton_append]
/-- What Payments returns, out of the rights in the order of priority. -/
theorem Payments_seq (t : List Rate) (ht : ratesOK t) (home m : Int) (hm : 0 ≤ m ∧ m ≤ 2399) (l : List Right) (hl : rightsOK l) :
    ∃ o, family_Order l home t m = some (o, 0) ∧ (∀ k ∈ o, 0 ≤ k ∧ k < (l.length : Int)) ∧ o.length = l.length ∧ o.Nodup ∧ (rightsAt l o).Perm l ∧ o.Pairwise (Le (cmpI t home m l)) ∧
      (rightsAt l o).Pairwise (fun a b => ¬ cmpR t home m b a < 0) ∧ family_Payments l home t m = some (paysR t m [] (rightsAt l o), 0) := by
  obtain ⟨o, ho, hp, hs, hpay⟩ := Payments_ok t ht home m hm l hl
  have hin : ∀ k ∈ o, 0 ≤ k ∧ k < (l.length : Int) := fun k hk => upTo_mem.1 (hp.subset hk)
  refine ⟨o, ho, hin, by rw [hp.length_eq, upTo_length], (hp.nodup_iff).2 (upTo_nodup _), ?_, hs, ?_, ?_⟩
  · have := hp.filterMap (getI l)
    exact this.trans (List.Perm.of_eq (rightsAt_upTo l))
  · have key : ∀ o : List Int, (∀ k ∈ o, 0 ≤ k ∧ k < (l.length : Int)) → o.Pairwise (Le (cmpI t home m l)) → (rightsAt l o).Pairwise (fun a b => ¬ cmpR t home m b a < 0) := by
      intro o
      induction o with
      | nil => intro _ _; exact List.Pairwise.nil
      | cons k ks ih =>
        intro hin hs
        obtain ⟨q, hq, _⟩ := getI_of (hin k (by simp)).1 (hin k (by simp)).2
        rw [rightsAt_cons hq]
        obtain ⟨h1, h2⟩ := List.pairwise_cons.1 hs
        refine List.pairwise_cons.2 ⟨fun b hb => ?_, ih (fun z hz => hin z (by simp [hz])) h2⟩
        obtain ⟨j, hj, hjb⟩ := List.mem_filterMap.1 hb
        have := h1 j hj
        unfold Le at this
        rwa [cmpI_of hjb hq] at this
    exact key o hin hs
  · rw [hpay, paysOf_eq t m l o [] hin (fun _ h => by cases h)]
    rfl
theorem rightsOK.mem {l : List Right} (h : rightsOK l) {y : Right} (hy : y ∈ l) : rightOK y := by
  obtain ⟨k, hk, hky⟩ := List.mem_iff_getElem.1 hy
  obtain ⟨z, hz, h2, _⟩ := h.2 k hk
  rw [List.getElem?_eq_getElem hk, hky] at hz
  cases hz; exact h2
/-- A right of a list in order is known by its state. -/
theorem rightsOK.same {l : List Right} (h : rightsOK l) {a b : Right} (ha : a ∈ l) (hb : b ∈ l) (hs : a.State = b.State) : a = b := by
  obtain ⟨i, hi, hia⟩ := List.mem_iff_getElem.1 ha
  obtain ⟨k, hk, hkb⟩ := List.mem_iff_getElem.1 hb
  by_cases hik : i = k
  · subst hik; rw [← hia, ← hkb]
  · have ga : getI l (i : Int) = some a := by rw [getI_nat, List.getElem?_eq_getElem hi, hia]
    have gb : getI l (k : Int) = some b := by rw [getI_nat, List.getElem?_eq_getElem hk, hkb]
    exact absurd hs (state_ne h ga gb (by omega))
end Go.PL
