/- The values of currencies and the order of rights: what the program's comparison says. Plain Lean. -/
import Derived.Test.YtcgfjcpggbcloaaDoorRights
import Derived.Test.YtcgfjcpggbcloaaDoorSort
import Derived.Test.YtcgfjcpggbcloaaDoorMul
set_option linter.unusedSimpArgs false
set_option linter.unusedVariables false
namespace Go.PL
open Go

/-- Two loops in step. -/
theorem loopC_lock {σ ρ : Type} {f g : (σ → Option ρ) → σ → Option ρ} (I : σ → Prop) (μ : σ → Nat) (Q : ρ → Prop)
    (step : ∀ s rec rec', I s → (∃ r, f rec s = some r ∧ g rec' s = some r ∧ Q r) ∨ ∃ s', f rec s = rec s' ∧ g rec' s = rec' s' ∧ I s' ∧ μ s' < μ s) : ∀ (k : Nat) (s : σ), I s → μ s < k → ∃ r, loopC k f s = some r ∧ loopC k g s = some r ∧ Q r
  | 0, _, _, h => absurd h (Nat.not_lt_zero _)
  | k + 1, s, hs, hk => by
    rcases step s (loopC k f) (loopC k g) hs with ⟨r, h1, h2, h3⟩ | ⟨s', h1, h2, h3, h4⟩
    · exact ⟨r, h1, h2, h3⟩
    · obtain ⟨r, h5, h6, h7⟩ := loopC_lock I μ Q step k s' h3 (by omega)
      exact ⟨r, by show f (loopC k f) s = _; rw [h1, h5], by show g (loopC k g) s = _; rw [h2, h6], h7⟩

theorem Value_eq (t : List Rate) (c m : Int) (hl : t.length ≤ 1000) :
    ∃ r, money_Value t c m = some r ∧ pensionref1_RateAt t c m = some r ∧ (r = (⟨0, 0⟩, false) ∨ ∃ y ∈ t, r = (y.Value, true) ∧ y.Currency = c) := by
  unfold money_Value pensionref1_RateAt
  refine loopC_lock (fun s => ∃ x : Nat, s.2 = (x : Int) ∧ x ≤ t.length ∧ (s.1 = -1 ∨ ∃ b : Nat, s.1 = (b : Int) ∧ ∃ y, t[b]? = some y ∧ y.Currency = c)) (fun s => t.length - s.2.toNat) _ ?_ FU _ ⟨0, rfl, Nat.zero_le _, .inl rfl⟩ (by unfold FU; show t.length - _ < _; omega)
  rintro ⟨best, i⟩ rec rec' ⟨x, hix, hx, hb⟩
  simp only at hix hb
  subst hix
  unfold money_Value_l pensionref1_RateAt_l money_Value_j pensionref1_RateAt_j
  dsimp only
  by_cases h : x < t.length
  · right
    have hy : t[x]? = some t[x] := List.getElem?_eq_getElem h
    have hgx : getI t (x : Int) = some t[x] := by rw [getI_nat]; exact hy
    generalize t[x] = y at *
    rw [if_pos (by simp; omega), if_pos (by simp; omega)]
    have e1 : i64 ((x : Int) + 1) = ((x + 1 : Nat) : Int) := by rw [i64_id (by omega) (by omega)]; simp
    simp only [hgx, Option.bind_some, e1, ite_and]
    rcases hb with hb | ⟨b, hb, y', hy', hc'⟩
    · subst hb
      simp only [show decide ((-1 : Int) < 0) = true from rfl, if_true, Option.bind_some, ite_and, Bool.and_true]
      by_cases hq : (y.Currency == c && decide (y.Month ≤ m)) = true
      · rw [if_pos hq, if_pos hq]
        have hyc : y.Currency = c := by simp only [Bool.and_eq_true, beq_iff_eq] at hq; exact hq.1
        exact ⟨((x : Int), ((x + 1 : Nat) : Int)), rfl, rfl, ⟨x + 1, rfl, h, .inr ⟨x, rfl, y, hy, hyc⟩⟩, by simp only [Int.toNat_natCast]; omega⟩
      · rw [if_neg hq, if_neg hq]
        exact ⟨(-1, ((x + 1 : Nat) : Int)), rfl, rfl, ⟨x + 1, rfl, h, .inl rfl⟩, by simp only [Int.toNat_natCast]; omega⟩
    · subst hb
      have hgb : getI t (b : Int) = some y' := by rw [getI_nat]; exact hy'
      have hbn : decide ((b : Int) < 0) = false := by simp
      simp only [hbn, hgb, Bool.false_eq_true, if_false, Option.bind_some, ite_and]
      by_cases hq : ((y.Currency == c && decide (y.Month ≤ m)) && decide (y'.Month < y.Month)) = true
      · rw [if_pos hq, if_pos hq]
        have hyc : y.Currency = c := by simp only [Bool.and_eq_true, beq_iff_eq] at hq; exact hq.1.1
        exact ⟨((x : Int), ((x + 1 : Nat) : Int)), rfl, rfl, ⟨x + 1, rfl, h, .inr ⟨x, rfl, y, hy, hyc⟩⟩, by simp only [Int.toNat_natCast]; omega⟩
      · rw [if_neg hq, if_neg hq]
        exact ⟨((b : Int), ((x + 1 : Nat) : Int)), rfl, rfl, ⟨x + 1, rfl, h, .inr ⟨b, rfl, y', hy', hc'⟩⟩, by simp only [Int.toNat_natCast]; omega⟩
  · left
    have hn : decide ((x : Int) < (t.length : Int)) = false := by rw [decide_eq_false_iff_not]; omega
    simp only [hn, Bool.false_eq_true, if_false]
    rcases hb with hb | ⟨b, hb, y', hy', hc'⟩
    · subst hb
      exact ⟨_, rfl, rfl, .inl rfl⟩
    · subst hb
      have hgb : getI t (b : Int) = some y' := by rw [getI_nat]; exact hy'
      have hbn : decide ((b : Int) < 0) = false := by simp
      simp only [hbn, hgb, Bool.false_eq_true, if_false, Option.bind_some]
      exact ⟨_, rfl, rfl, .inr ⟨y', List.mem_of_getElem? hy', rfl, hc'⟩⟩

theorem ratesOK.mem {t : List Rate} (h : ratesOK t) {y : Rate} (hy : y ∈ t) : rateOK y := by
  obtain ⟨k, hk, hky⟩ := List.mem_iff_getElem.1 hy
  obtain ⟨z, hz, h2, _⟩ := h.2 k hk
  rw [List.getElem?_eq_getElem hk, hky] at hz
  cases hz; exact h2
/-- The value of a right, as numerator and denominator. -/
def wnum (t : List Rate) (m : Int) (r : Right) : Int := match money_Value t r.Currency m with | some (f, true) => r.Amount * f.Num | _ => 0
def wden (t : List Rate) (m : Int) (r : Right) : Int := match money_Value t r.Currency m with | some (f, true) => f.Den | _ => 1
theorem worth_eq (t : List Rate) (ht : ratesOK t) (m : Int) (r : Right) (hr : rightOK r) :
    family_worth r t m = some ⟨wnum t m r, wden t m r⟩ ∧ (0 ≤ wnum t m r ∧ wnum t m r ≤ 1000000000000000000) ∧ (1 ≤ wden t m r ∧ wden t m r ≤ 1000000) := by
  obtain ⟨v, h1, _, h2⟩ := Value_eq t r.Currency m (by have := ht.1; omega)
  unfold family_worth wnum wden
  rw [h1]
  rcases h2 with h2 | ⟨y, hy, h2, _⟩
  · subst h2; simp
  · subst h2
    have h3 := ht.mem hy
    obtain ⟨_, _, _, ⟨a1, a2⟩, a3, a4⟩ := h3
    obtain ⟨_, _, _, b1, b2⟩ := hr
    have hm : 0 ≤ r.Amount * y.Value.Num ∧ r.Amount * y.Value.Num ≤ 1000000000000000000 :=
      ⟨Int.mul_nonneg (by omega) (by omega), Int.le_trans (Int.mul_le_mul b2 a2 (by omega) (by decide)) (by decide)⟩
    simp only [Option.bind_some, Bool.not_true, Bool.false_eq_true, if_false]
    rw [u64_id (n := r.Amount) (by omega) (by omega), u64_id (n := y.Value.Num) (by omega) (by omega), u64_id (n := y.Value.Den) (by omega) (by omega), u64_id (by omega) (by omega)]
    exact ⟨rfl, hm, a3, a4⟩

/-- How the program compares two rights: the state of residence's own first among equal bases, then the greater value, then the lesser state. -/
def away (home : Int) (r : Right) : Int := if r.State = home then 0 else 1
def cmpR (t : List Rate) (home m : Int) (a b : Right) : Int := orI [sgn a.Basis b.Basis, sgn (away home a) (away home b), sgn (wnum t m b * wden t m a) (wnum t m a * wden t m b), sgn a.State b.State]
theorem Order_2_eq (t : List Rate) (ht : ratesOK t) (home m : Int) (l : List Right) (hl : rightsOK l) {i k : Int} (hi : 0 ≤ i ∧ i < (l.length : Int)) (hk : 0 ≤ k ∧ k < (l.length : Int)) :
    ∃ a b, getI l i = some a ∧ getI l k = some b ∧ family_Order_2 i k l (fun x => family_Order_1 x home) t m = some (cmpR t home m a b) := by
  obtain ⟨a, ha, ha2⟩ := getI_of hi.1 hi.2
  obtain ⟨b, hb, hb2⟩ := getI_of hk.1 hk.2
  refine ⟨a, b, ha, hb, ?_⟩
  have hra : rightOK a := by
    obtain ⟨z, hz, h2, _⟩ := hl.2 i.toNat (by omega)
    rw [ha2] at hz; cases hz; exact h2
  have hrb : rightOK b := by
    obtain ⟨z, hz, h2, _⟩ := hl.2 k.toNat (by omega)
    rw [hb2] at hz; cases hz; exact h2
  have e1 : ∀ r : Right, family_Order_1 r home = some (away home r) := by
    intro r
    unfold family_Order_1 away
    by_cases h : r.State = home <;> simp [h]
  obtain ⟨wa, na, da⟩ := worth_eq t ht m a hra
  obtain ⟨wb, nb, db⟩ := worth_eq t ht m b hrb
  unfold family_Order_2
  simp only [ha, hb, Option.bind_some, Compare_int, e1, wa, wb]
  rw [compare_eq _ _ ⟨nb.1, Int.lt_of_le_of_lt nb.2 (by decide)⟩ ⟨Int.le_trans (by decide) db.1, Int.lt_of_le_of_lt db.2 (by decide)⟩ ⟨na.1, Int.lt_of_le_of_lt na.2 (by decide)⟩ ⟨Int.le_trans (by decide) da.1, Int.lt_of_le_of_lt da.2 (by decide)⟩]
  simp only [Option.bind_some]
  rw [Or_eq _ (show ([_, _, _, _] : List Int).length ≤ 1000 by simp)]
  rfl

theorem orI_neg (a b c d : Int) : orI [a, b, c, d] < 0 ↔ a < 0 ∨ a = 0 ∧ (b < 0 ∨ b = 0 ∧ (c < 0 ∨ c = 0 ∧ d < 0)) := by
  unfold orI orI orI orI orI
  split
  · split
    · split
      · split
        · omega
        · omega
      · omega
    · omega
  · omega
theorem sgn_neg (p q : Int) : sgn p q < 0 ↔ p < q := by
  unfold sgn; split
  · omega
  · split <;> omega
theorem sgn_zero (p q : Int) : sgn p q = 0 ↔ p = q := by
  unfold sgn; split
  · omega
  · split <;> omega
theorem cmpR_neg (t : List Rate) (home m : Int) (a b : Right) : cmpR t home m a b < 0 ↔ a.Basis < b.Basis ∨ a.Basis = b.Basis ∧ (away home a < away home b ∨ away home a = away home b ∧
    (wnum t m b * wden t m a < wnum t m a * wden t m b ∨ wnum t m b * wden t m a = wnum t m a * wden t m b ∧ a.State < b.State)) := by
  unfold cmpR
  rw [orI_neg]
  simp only [sgn_neg, sgn_zero]
theorem frac_trans {n1 d1 n2 d2 n3 d3 : Int} (h1 : 0 < d1) (h2 : 0 < d2) (h3 : 0 < d3) (h : n1 * d2 ≤ n2 * d1) (k : n2 * d3 ≤ n3 * d2) : n1 * d3 ≤ n3 * d1 := by
  have e1 : n1 * d2 * d3 ≤ n2 * d1 * d3 := Int.mul_le_mul_of_nonneg_right h (by omega)
  have e2 : n2 * d3 * d1 ≤ n3 * d2 * d1 := Int.mul_le_mul_of_nonneg_right k (by omega)
  have e3 : n2 * d1 * d3 = n2 * d3 * d1 := by rw [Int.mul_assoc, Int.mul_comm d1 d3, ← Int.mul_assoc]
  have e4 : n1 * d3 * d2 ≤ n3 * d1 * d2 := by
    have e5 : n1 * d3 * d2 = n1 * d2 * d3 := by rw [Int.mul_assoc, Int.mul_comm d3 d2, ← Int.mul_assoc]
    have e6 : n3 * d1 * d2 = n3 * d2 * d1 := by rw [Int.mul_assoc, Int.mul_comm d1 d2, ← Int.mul_assoc]
    rw [e5, e6]; exact Int.le_trans (e3 ▸ e1) e2
  exact Int.le_of_mul_le_mul_right e4 h2
/-- The program's comparison of two indices. -/
def cmpI (t : List Rate) (home m : Int) (l : List Right) (i k : Int) : Int := match getI l i, getI l k with | some a, some b => cmpR t home m a b | _, _ => 0
theorem cmpI_of {t : List Rate} {home m : Int} {l : List Right} {i k : Int} {a b : Right} (ha : getI l i = some a) (hb : getI l k = some b) : cmpI t home m l i k = cmpR t home m a b := by
  unfold cmpI; rw [ha, hb]
theorem rightsOK.get {l : List Right} (hl : rightsOK l) {i : Int} (hi : 0 ≤ i ∧ i < (l.length : Int)) : ∃ a, getI l i = some a ∧ rightOK a := by
  obtain ⟨a, ha, ha2⟩ := getI_of hi.1 hi.2
  obtain ⟨z, hz, h2, _⟩ := hl.2 i.toNat (by omega)
  rw [ha2] at hz; cases hz
  exact ⟨a, ha, h2⟩
theorem ordered_cmpI (t : List Rate) (ht : ratesOK t) (home m : Int) (l : List Right) (hl : rightsOK l) : Ordered (cmpI t home m l) (fun i => 0 ≤ i ∧ i < (l.length : Int)) := by
  constructor
  · intro x y hx hy
    obtain ⟨a, ha, _⟩ := hl.get hx
    obtain ⟨b, hb, _⟩ := hl.get hy
    rw [cmpI_of ha hb, cmpI_of hb ha, cmpR_neg, cmpR_neg]
    omega
  · intro x y z hx hy hz
    obtain ⟨a, ha, ra⟩ := hl.get hx
    obtain ⟨b, hb, rb⟩ := hl.get hy
    obtain ⟨c, hc, rc⟩ := hl.get hz
    rw [cmpI_of hb ha, cmpI_of hc hb, cmpI_of hc ha, cmpR_neg, cmpR_neg, cmpR_neg]
    obtain ⟨_, _, da⟩ := worth_eq t ht m a ra
    obtain ⟨_, _, db⟩ := worth_eq t ht m b rb
    obtain ⟨_, _, dc⟩ := worth_eq t ht m c rc
    have da : 0 < wden t m a := by omega
    have db : 0 < wden t m b := by omega
    have dc : 0 < wden t m c := by omega
    have t1 := @frac_trans (wnum t m a) (wden t m a) (wnum t m b) (wden t m b) (wnum t m c) (wden t m c) da db dc
    have t2 := @frac_trans (wnum t m a) (wden t m a) (wnum t m c) (wden t m c) (wnum t m b) (wden t m b) da dc db
    have t3 := @frac_trans (wnum t m b) (wden t m b) (wnum t m a) (wden t m a) (wnum t m c) (wden t m c) db da dc
    have t4 := @frac_trans (wnum t m b) (wden t m b) (wnum t m c) (wden t m c) (wnum t m a) (wden t m a) db dc da
    have t5 := @frac_trans (wnum t m c) (wden t m c) (wnum t m a) (wden t m a) (wnum t m b) (wden t m b) dc da db
    have t6 := @frac_trans (wnum t m c) (wden t m c) (wnum t m b) (wden t m b) (wnum t m a) (wden t m a) dc db da
    generalize wnum t m a * wden t m b = ab at *
    generalize wnum t m b * wden t m a = ba at *
    generalize wnum t m a * wden t m c = ac at *
    generalize wnum t m c * wden t m a = ca at *
    generalize wnum t m b * wden t m c = bc at *
    generalize wnum t m c * wden t m b = cb at *
    omega
/-- The indices from 0 on. -/
def upTo (n : Nat) : List Int := (List.range n).map fun (k : Nat) => (k : Int)
theorem upTo_mem {n : Nat} {x : Int} : x ∈ upTo n ↔ 0 ≤ x ∧ x < (n : Int) := by
  unfold upTo
  rw [List.mem_map]
  constructor
  · rintro ⟨k, hk, rfl⟩; have := List.mem_range.1 hk; omega
  · rintro ⟨h0, h1⟩; exact ⟨x.toNat, List.mem_range.2 (by omega), by omega⟩
theorem upTo_succ (n : Nat) : upTo (n + 1) = upTo n ++ [(n : Int)] := by unfold upTo; rw [List.range_succ]; simp
theorem upTo_length (n : Nat) : (upTo n).length = n := by unfold upTo; simp
/-- What Order returns for arguments that are in order. -/
theorem Order_ok (t : List Rate) (ht : ratesOK t) (home m : Int) (hm : 0 ≤ m ∧ m ≤ 2399) (l : List Right) (hl : rightsOK l) :
    ∃ o, family_Order l home t m = some (o, 0) ∧ o.Perm (upTo l.length) ∧ o.Pairwise (Le (cmpI t home m l)) := by
  obtain ⟨v, hv, hv2⟩ := valid_eq l
  have hvt : v = true := by rcases hv2 with h | h; exact h.1; exact absurd hl h.2
  subst hvt
  obtain ⟨c, hc, hc2⟩ := money_CheckRates_eq t
  have hc0 : c = 0 := by rcases hc2 with h | h; exact h.1; exact absurd ht h.2
  subst hc0
  have hl6 := hl.1
  obtain ⟨o, ho, ho2, ho3⟩ := SortFunc_eq (c := cmpI t home m l) (S := fun i => 0 ≤ i ∧ i < (l.length : Int)) (cmp := fun x => family_Order_2 x.1 x.2 l (fun x => family_Order_1 x home) t m) (ordered_cmpI t ht home m l hl)
    (fun x y hx hy => by
      obtain ⟨a, b, ha, hb, h⟩ := Order_2_eq t ht home m l hl hx hy
      rw [cmpI_of ha hb]; exact h) (upTo l.length) (fun x hx => upTo_mem.1 hx) (by rw [upTo_length]; omega)
  have hloop : ∃ r, loopC FU (family_Order_l l home t m) ([], 0) = some r ∧ r = (o, 0) := by
    refine loopC_FU (fun s => ∃ x : Nat, s = (upTo x, (x : Int)) ∧ x ≤ l.length) (fun s => l.length - s.2.toNat) _ ⟨0, rfl, Nat.zero_le _⟩ (by show l.length - _ < _; omega) ?_
    rintro s rec ⟨x, rfl, hx⟩
    unfold family_Order_l
    dsimp only
    by_cases h : x < l.length
    · right
      rw [if_pos (by simp; omega), appI_of (bytes := 8) (l := upTo x) (x := [(x : Int)]) (by rw [upTo_length]; simp only [List.length_cons, List.length_nil]; omega), Option.bind_some, i64_id (n := (x : Int) + 1) (by omega) (by omega)]
      exact ⟨_, rfl, ⟨x + 1, by rw [upTo_succ]; simp, h⟩, by simp only []; omega⟩
    · left
      have : x = l.length := by omega
      subst this
      rw [if_neg (by simp), ho, Option.bind_some]
      exact ⟨_, rfl, rfl⟩
  obtain ⟨r, h1, h2⟩ := hloop
  subst h2
  refine ⟨o, ?_, ho2, ho3⟩
  unfold family_Order
  rw [hv]
  have e : (((!true) || decide (m < 0)) || decide (2399 < m)) = false := by
    rw [Bool.not_true, Bool.false_or, Bool.or_eq_false_iff]; exact ⟨decide_eq_false (by omega), decide_eq_false (by omega)⟩
  simp only [Option.bind_some, e, Bool.false_eq_true, if_false, hc, bne_self_eq_false, h1]
/-- What Order returns for arguments that are not in order. -/
theorem Order_bad (t : List Rate) (home m : Int) (l : List Right) (h : ¬ (rightsOK l ∧ (0 ≤ m ∧ m ≤ 2399) ∧ ratesOK t)) : family_Order l home t m = some ([], 1) := by
  obtain ⟨v, hv, hv2⟩ := valid_eq l
  obtain ⟨c, hc, hc2⟩ := money_CheckRates_eq t
  unfold family_Order
  rw [hv, Option.bind_some]
  by_cases e : (((!v) || decide (m < 0)) || decide (2399 < m)) = true
  · rw [if_pos e]; simp
  · rw [if_neg e, hc]
    have e' : v = true ∧ ¬ m < 0 ∧ ¬ 2399 < m := by
      simp only [Bool.or_eq_true, decide_eq_true_eq, Bool.not_eq_true', not_or] at e
      exact ⟨by simpa using e.1.1, e.1.2, e.2⟩
    have hl : rightsOK l := by rcases hv2 with h | h; exact h.2; rw [h.1] at e'; exact absurd e'.1 (by decide)
    have hc0 : c ≠ 0 := by
      intro hc0
      rcases hc2 with h2 | h2
      · exact h ⟨hl, ⟨by omega, by omega⟩, h2.2⟩
      · exact h2.1 hc0
    have : (c != 0) = true := by simpa using hc0
    simp [this]
end Go.PL
