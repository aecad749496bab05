/- FamilyPrimaryPaysInFull is true. Plain Lean. -/
import Derived.Test.YtcgfjcpggbcloaaDoorSeq
set_option linter.unusedSimpArgs false
set_option linter.unusedVariables false
namespace Go.PL
open Go

/-- An amount that a division gives lies within the limits. -/
theorem divide_bound (neg : Bool) {hi lo den : Int} {r : Int × Int} (h : money_divide neg hi lo den ⟨1, 1⟩ = some r) : -1000000000000 ≤ r.1 ∧ r.1 ≤ 1000000000000 := by
  have j3 : ∀ x r, money_divide_j3 ⟨1, 1⟩ x = some r → -1000000000000 ≤ r.1 ∧ r.1 ≤ 1000000000000 := by
    intro x r h
    unfold money_divide_j3 at h
    have e1 : quoI 1000000000000 1 = some 1000000000000 := by rw [quoI_of (by decide)]; rfl
    have e2 : quoI (-1000000000000) 1 = some (-1000000000000) := by rw [quoI_of (by decide)]; rfl
    simp only [e1, e2, Option.bind_some, ite_or] at h
    split at h
    · cases h; decide
    · rename_i hc
      simp only [Bool.or_eq_true, decide_eq_true_eq, not_or] at hc
      cases h
      simp only [Int.mul_one]
      rw [i64_id (by omega) (by omega)]
      omega
  have j : ∀ p x y r, money_divide_j p ⟨1, 1⟩ x y = some r → -1000000000000 ≤ r.1 ∧ r.1 ≤ 1000000000000 := by
    intro p x y r h
    unfold money_divide_j money_divide_j2 at h
    simp only [show ((1 : Int) == 2) = false from rfl, show ((1 : Int) == 3) = false from rfl, show ((1 : Int) == 4) = false from rfl, Bool.false_eq_true, if_false] at h
    exact j3 _ _ h
  unfold money_divide at h
  split at h
  · cases h; decide
  · obtain ⟨z, _, h⟩ := obind h
    split at h
    · cases h; decide
    · split at h
      · split at h <;> exact j _ _ _ _ h
      · exact j _ _ _ _ h
theorem Convert_bound {t : List Rate} {m x a b : Int} {r : Int × Int} (h : money_Convert x a b m t ⟨1, 1⟩ = some r) : -1000000000000 ≤ r.1 ∧ r.1 ≤ 1000000000000 := by
  unfold money_Convert at h
  obtain ⟨z, _, h⟩ := obind h
  obtain ⟨c, _, h⟩ := obind h
  obtain ⟨c2, _, h⟩ := obind h
  obtain ⟨c3, _, h⟩ := obind h
  obtain ⟨c4, _, h⟩ := obind h
  obtain ⟨c5, _, h⟩ := obind h
  split at h
  · cases h; decide
  · split at h
    · obtain ⟨z7, _, h⟩ := obind h
      obtain ⟨z8, h8, h⟩ := obind h
      cases h
      exact divide_bound _ h8
    · obtain ⟨z9, _, h⟩ := obind h
      obtain ⟨z10, _, h⟩ := obind h
      split at h
      · cases h; decide
      · obtain ⟨z11, _, h⟩ := obind h
        obtain ⟨z12, _, h⟩ := obind h
        obtain ⟨z13, h13, h⟩ := obind h
        cases h
        exact divide_bound _ h13
theorem cvt_bound (t : List Rate) (m : Int) (q r : Right) : -1000000000000 ≤ (cvt t m q r).1 ∧ (cvt t m q r).1 ≤ 1000000000000 := by
  unfold cvt
  cases h : money_Convert q.Amount q.Currency r.Currency m t ⟨1, 1⟩ with
  | none => decide
  | some v => exact Convert_bound h
theorem mostR_bound (t : List Rate) (m : Int) (r : Right) : ∀ (qs : List Right) (acc : Int), 0 ≤ acc ∧ acc ≤ 1000000000000 → 0 ≤ mostR t m r acc qs ∧ mostR t m r acc qs ≤ 1000000000000
  | [], acc, h => h
  | q :: qs, acc, h => by
    simp only [mostR]
    have := cvt_bound t m q r
    refine mostR_bound t m r qs _ ?_
    split <;> omega

theorem FamilyPrimaryPaysInFull_true (d : List pensionlaw24_Raw) (hd : d.length ≤ 9223372036854775807) (i : Int) (p : List Int) (hp : p.length ≤ 9223372036854775807) (p2 : Int) : pensionlaw24_FamilyPrimaryPaysInFull d i p p2 = some true := by
  obtain ⟨l, hl, hok⟩ := List_ok d hd
  obtain ⟨t, ht, htok⟩ := Rates_ok p hp
  have hm : 0 ≤ p2 % 2400 ∧ p2 % 2400 ≤ 2399 := by omega
  unfold pensionlaw24_FamilyPrimaryPaysInFull
  rw [hl, Option.bind_some, ht, Option.bind_some, mod_month, Option.bind_some, mod_home, Option.bind_some]
  generalize p2 % 2400 = m at hm
  generalize i64 (i % 8 - 1) = home
  have hr := hok.ok
  obtain ⟨o, ho, hin, hlen, hnd, _, hs, _, hpay⟩ := Payments_seq t htok home m hm l hr
  have hra := rightsAt_length l o hin
  have hpl := paysR_length t m (rightsAt l o) []
  rw [ho, Option.bind_some, hpay, Option.bind_some, awake_eq, Option.bind_some]
  rw [if_neg (by simp [hlen, hpl, hra])]
  have hl6 := hr.1
  have hget : ∀ x, x < o.length → ∃ y q, o[x]? = some y ∧ (0 ≤ y ∧ y < (l.length : Int)) ∧ getI l y = some q ∧ rightOK q ∧ (rightsAt l o)[x]? = some q := by
    intro x hx
    have hyin := hin o[x] (List.getElem_mem hx)
    obtain ⟨q, hq, rq⟩ := hr.get hyin
    refine ⟨o[x], q, List.getElem?_eq_getElem hx, hyin, hq, rq, ?_⟩
    have e : o = o.take x ++ o[x] :: o.drop (x + 1) := by rw [List.getElem_cons_drop, List.take_append_drop]
    have hlt : (rightsAt l (o.take x)).length = x := by rw [rightsAt_length l _ (fun k hk => hin k (List.mem_of_mem_take hk)), List.length_take]; omega
    rw [e, rightsAt_append, rightsAt_cons (by simpa using hq), List.getElem?_append_right (by omega), hlt]
    simp
  generalize hP : paysR t m [] (rightsAt l o) = P at *
  obtain ⟨r, h1, h2⟩ := loopC_FU (f := pensionlaw24_FamilyPrimaryPaysInFull_l l (o, 0) (P, 0)) (fun s => ∃ x : Nat, s = (x : Int) ∧ x ≤ P.length) (fun s => P.length - s.toNat) (fun r => r = true) (s := 0) ⟨0, rfl, Nat.zero_le _⟩ (by show P.length - _ < _; omega) (by
    rintro s rec ⟨x, rfl, hx⟩
    unfold pensionlaw24_FamilyPrimaryPaysInFull_l
    dsimp only
    by_cases hlt : x < P.length
    · right
      obtain ⟨y, q, hoy, hyin, hq, rq, hrx⟩ := hget x (by omega)
      have hgx : getI o (x : Int) = some y := by rw [getI_nat]; exact hoy
      have hpx : getI P (x : Int) = some (payR t m ((rightsAt l o).take x) q) := by rw [getI_nat, ← hP, paysR_get, hrx]; rfl
      have e1 : decide ((x : Int) < (P.length : Int)) = true := by rw [decide_eq_true_eq]; omega
      have e2 : decide (y < 0) = false := by rw [decide_eq_false_iff_not]; omega
      have e3 : decide ((l.length : Int) ≤ y) = false := by rw [decide_eq_false_iff_not]; omega
      simp only [e1, if_true, hgx, Option.bind_some, e2, Bool.false_eq_true, if_false, e3, hq, hpx]
      have hb := mostR_bound t m q ((rightsAt l o).take x) 0 (by decide)
      have h0 : x = 0 → mostR t m q 0 ((rightsAt l o).take x) = 0 := fun h => by rw [h]; rfl
      have htl : ((rightsAt l o).take x).length = x := by rw [List.length_take]; omega
      unfold payR
      rw [htl]
      simp only []
      generalize mostR t m q 0 ((rightsAt l o).take x) = mo at *
      obtain ⟨_, _, _, a1, a2⟩ := rq
      rw [i64_id (n := q.Amount - mo) (by omega) (by omega), i64_id (n := (x : Int) + 1) (by omega) (by omega)]
      have e4 : decide (q.Amount < max 0 (q.Amount - mo)) = false := by rw [decide_eq_false_iff_not]; omega
      have e5 : (x : Int) == 0 → (max 0 (q.Amount - mo) != q.Amount) = false := by
        intro h
        have : mo = 0 := h0 (by simpa using h)
        simp; omega
      simp only [bne_self_eq_false, Bool.false_eq_true, if_false, Option.bind_some, e4]
      refine ⟨((x + 1 : Nat) : Int), ?_, ⟨x + 1, rfl, hlt⟩, by simp only [Int.toNat_natCast]; omega⟩
      by_cases hx0 : ((x : Int) == 0) = true
      · simp only [hx0, if_true, Option.bind_some, e5 hx0, Bool.false_eq_true, if_false]
        simp
      · simp only [hx0, if_false, Option.bind_some, Bool.false_eq_true]
        simp
    · left
      have e1 : decide ((x : Int) < (P.length : Int)) = false := by rw [decide_eq_false_iff_not]; omega
      simp only [e1, Bool.false_eq_true, if_false]
      exact ⟨_, rfl, rfl⟩)
  rw [h1, h2]
end Go.PL
