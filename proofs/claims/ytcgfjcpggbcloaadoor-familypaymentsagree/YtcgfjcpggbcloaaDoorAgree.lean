/- FamilyOrderAgrees is true. Plain Lean. -/
import Derived.Test.YtcgfjcpggbcloaaDoorSeq
set_option linter.unusedSimpArgs false
set_option linter.unusedVariables false
namespace Go.PL
open Go

/-- The value of a right, as the reference compares it. -/
theorem worth_ref (t : List Rate) (ht : ratesOK t) (m : Int) (a b : Right) (ha : rightOK a) (hb : rightOK b) : pensionref21_worth a b t m = some (sgn (wnum t m a * wden t m b) (wnum t m b * wden t m a)) := by
  have htl : t.length ≤ 1000 := by have := ht.1; omega
  obtain ⟨v, h1, h2, h3⟩ := Value_eq t a.Currency m htl
  obtain ⟨u, k1, k2, k3⟩ := Value_eq t b.Currency m htl
  unfold pensionref21_worth
  rw [h2, k2]
  simp only [Option.bind_some]
  have hw : ∀ (r : Right) (y : Rate), rightOK r → y ∈ t → 0 < r.Amount * y.Value.Num ∧ r.Amount * y.Value.Num ≤ 1000000000000000000 ∧ (1 ≤ y.Value.Den ∧ y.Value.Den ≤ 1000000) ∧ u64 (u64 r.Amount * u64 y.Value.Num) = r.Amount * y.Value.Num ∧ u64 y.Value.Den = y.Value.Den := by
    intro r y hr hy
    obtain ⟨_, _, _, ⟨a1, a2⟩, a3, a4⟩ := ht.mem hy
    obtain ⟨_, _, _, b1, b2⟩ := hr
    have hm : 0 < r.Amount * y.Value.Num ∧ r.Amount * y.Value.Num ≤ 1000000000000000000 :=
      ⟨Int.mul_pos (by omega) (by omega), Int.le_trans (Int.mul_le_mul b2 a2 (by omega) (by decide)) (by decide)⟩
    refine ⟨hm.1, hm.2, ⟨a3, a4⟩, ?_, u64_id (by omega) (by omega)⟩
    rw [u64_id (n := r.Amount) (by omega) (by omega), u64_id (n := y.Value.Num) (by omega) (by omega), u64_id (by omega) (by omega)]
  unfold wnum wden
  rw [h1, k1]
  rcases h3 with h3 | ⟨y, hy, h3, _⟩ <;> rcases k3 with k3 | ⟨z, hz, k3, _⟩ <;> subst h3 <;> subst k3
  · simp [sgn]
  · obtain ⟨c1, c2, c3, _, _⟩ := hw b z hb hz
    have e : z.Value.Den ≠ 0 := by omega
    simp only []
    rw [if_pos (by simp), if_neg (by simp), if_pos (by simpa using e)]
    unfold sgn
    rw [if_pos (by omega)]
  · obtain ⟨c1, c2, c3, _, _⟩ := hw a y ha hy
    have e : y.Value.Den ≠ 0 := by omega
    simp only []
    rw [if_pos (by simp), if_pos (by simpa using e)]
    unfold sgn
    rw [if_neg (by omega), if_pos (by omega)]
  · obtain ⟨c1, c2, c3, c4, c5⟩ := hw a y ha hy
    obtain ⟨d1, d2, d3, d4, d5⟩ := hw b z hb hz
    simp only []
    rw [if_neg (by simp; omega), c4, c5, d4, d5, Mul64_eq (by omega) (by omega) (by omega) (by omega), Mul64_eq (by omega) (by omega) (by omega) (by omega)]
    simp only [Option.bind_some]
    generalize a.Amount * y.Value.Num * z.Value.Den = p
    generalize b.Amount * z.Value.Num * y.Value.Den = q
    rw [cmp_words]
    have e1 : ((p / 18446744073709551616 == q / 18446744073709551616) && (p % 18446744073709551616 == q % 18446744073709551616)) = decide (p = q) := by
      rw [Bool.eq_iff_iff]; simp only [Bool.and_eq_true, beq_iff_eq, decide_eq_true_eq]; omega
    rw [e1]
    unfold sgn
    by_cases h1 : p = q
    · subst h1; simp
    · by_cases h2 : p < q
      · simp [h1, h2]
      · have : q < p := by omega
        simp [h1, h2, this]
theorem before_eq (t : List Rate) (ht : ratesOK t) (home m : Int) (a b : Right) (ha : rightOK a) (hb : rightOK b) : pensionref21_before a b home t m = some (decide (cmpR t home m a b < 0)) := by
  unfold pensionref21_before
  rw [worth_ref t ht m a b ha hb]
  simp only [Option.bind_some]
  have hc := cmpR_neg t home m a b
  by_cases h1 : a.Basis = b.Basis
  · rw [if_neg (by simpa using h1)]
    by_cases h2 : away home a = away home b
    · have e : (a.State == home) = (b.State == home) := by
        unfold away at h2
        by_cases x1 : a.State = home <;> by_cases x2 : b.State = home <;> first
          | (rw [beq_eq_false_iff_ne.2 x1, beq_eq_false_iff_ne.2 x2])
          | simp_all
      rw [e, if_neg (by simp)]
      by_cases h3 : wnum t m b * wden t m a = wnum t m a * wden t m b
      · have : sgn (wnum t m a * wden t m b) (wnum t m b * wden t m a) = 0 := (sgn_zero _ _).2 h3.symm
        rw [this, if_neg (by simp)]
        congr 1
        rw [decide_eq_decide, hc]
        omega
      · have : sgn (wnum t m a * wden t m b) (wnum t m b * wden t m a) ≠ 0 := fun h => h3 ((sgn_zero _ _).1 h).symm
        rw [if_pos (by simpa using this)]
        congr 1
        rw [decide_eq_decide, hc]
        unfold sgn
        generalize wnum t m a * wden t m b = p at *
        generalize wnum t m b * wden t m a = q at *
        constructor
        · intro h; right; refine ⟨h1, .inr ⟨h2, .inl ?_⟩⟩; split at h <;> (try split at h) <;> omega
        · intro h; split <;> (try split) <;> omega
    · have e : ((a.State == home) != (b.State == home)) = true ∧ ((a.State == home) = true ↔ away home a < away home b) := by
        unfold away at h2 ⊢
        by_cases x1 : a.State = home <;> by_cases x2 : b.State = home <;> simp_all
      rw [if_pos e.1]
      congr 1
      rw [Bool.eq_iff_iff, e.2, decide_eq_true_eq, hc]
      omega
  · rw [if_pos (by simpa using h1)]
    congr 1
    rw [decide_eq_decide, hc]
    omega

/-- The reference's insertion of one index. -/
theorem insert_ref (t : List Rate) (ht : ratesOK t) (home m : Int) (l : List Right) (hl : rightsOK l) (out : List Int) (i : Nat) (hi : i < l.length) (hp : out.Perm (upTo i)) (hs : out.Pairwise (Le (cmpI t home m l)))
    (rec : List Int × Int → Option (List Int × Int)) :
    ∃ out' : List Int, out'.Perm (upTo (i + 1)) ∧ out'.Pairwise (Le (cmpI t home m l)) ∧ loopC FU (pensionref21_Order_l2 l home t m out (i : Int) rec) (out.length : Int) = rec (out', ((i + 1 : Nat) : Int)) := by
  have hl6 := hl.1
  have hol : out.length = i := by rw [hp.length_eq, upTo_length]
  have hin : ∀ k ∈ out, 0 ≤ k ∧ k < (l.length : Int) := fun k hk => by have := upTo_mem.1 (hp.subset hk); omega
  obtain ⟨a, ha, ra⟩ := hl.get (i := (i : Int)) (by omega)
  have hO := ordered_cmpI t ht home m l hl
  refine loopC_innerFU (fun s => ∃ k : Nat, s = (k : Int) ∧ k ≤ out.length ∧ ∀ y ∈ out.drop k, cmpI t home m l (i : Int) y < 0) (fun s => s.toNat)
    (fun r => ∃ out' : List Int, out'.Perm (upTo (i + 1)) ∧ out'.Pairwise (Le (cmpI t home m l)) ∧ r = rec (out', ((i + 1 : Nat) : Int))) ⟨out.length, rfl, Nat.le_refl _, by simp⟩ (by simp; omega) ?_
  rintro s rec2 ⟨k, rfl, hk, hd⟩
  unfold pensionref21_Order_l2
  have hstop : (∀ y ∈ out.take k, Le (cmpI t home m l) y (i : Int)) → ∃ out' : List Int, out'.Perm (upTo (i + 1)) ∧ out'.Pairwise (Le (cmpI t home m l)) ∧
      (Option.bind (sliceI out 0 (k : Int)) fun s => Option.bind (appI 8 [] s) fun l => Option.bind (appI 8 l [(i : Int)]) fun l2 => Option.bind (sliceI out (k : Int) (out.length : Int)) fun s2 => Option.bind (appI 8 l2 s2) fun l3 => rec (l3, i64 ((i : Int) + 1))) = rec (out', ((i + 1 : Nat) : Int)) := by
    intro hle
    have e1 : sliceI out 0 (k : Int) = some (out.take k) := by rw [sliceI_of (by omega) (by omega) (by omega)]; simp
    have e2 : sliceI out (k : Int) (out.length : Int) = some (out.drop k) := by
      rw [sliceI_of (by omega) (by omega) (by omega)]
      simp only [Int.toNat_natCast]
      rw [List.take_of_length_le (by rw [List.length_drop]; omega)]
    have ltk : (out.take k).length = k := by rw [List.length_take]; omega
    have ldk : (out.drop k).length = out.length - k := List.length_drop
    rw [e1, Option.bind_some, appI_of (by simp only [List.length_nil]; omega), Option.bind_some, List.nil_append, appI_of (by simp only [List.length_cons, List.length_nil]; omega), Option.bind_some, e2, Option.bind_some,
      appI_of (by simp only [List.length_append, List.length_cons, List.length_nil]; omega), Option.bind_some, i64_id (n := (i : Int) + 1) (by omega) (by omega)]
    refine ⟨out.take k ++ [(i : Int)] ++ out.drop k, ?_, ?_, by simp⟩
    · rw [upTo_succ]
      have h1 : (out.take k ++ [(i : Int)] ++ out.drop k).Perm ((i : Int) :: out) := by
        have : (out.take k ++ ([(i : Int)] ++ out.drop k)).Perm ([(i : Int)] ++ out.take k ++ out.drop k) := by
          rw [← List.append_assoc]; exact List.Perm.append_right _ List.perm_append_comm
        rw [List.append_assoc]
        refine this.trans (List.Perm.of_eq ?_)
        rw [List.append_assoc, List.take_append_drop]; rfl
      exact h1.trans ((hp.cons _).trans (List.perm_append_comm (l₁ := [(i : Int)])))
    · have hs2 : (out.take k ++ out.drop k).Pairwise (Le (cmpI t home m l)) := by rw [List.take_append_drop]; exact hs
      rw [List.pairwise_append] at hs2
      rw [List.append_assoc, List.pairwise_append]
      refine ⟨hs2.1, ?_, fun x hx y hy => ?_⟩
      · rw [List.singleton_append]
        refine List.pairwise_cons.2 ⟨fun y hy => ?_, hs2.2.1⟩
        have hyo := hin y (List.mem_of_mem_drop hy)
        exact hO.asymm (i : Int) y ⟨by omega, by omega⟩ hyo (hd y hy)
      · rw [List.singleton_append] at hy
        rcases List.mem_cons.1 hy with hy | hy
        · rw [hy]; exact hle x hx
        · exact hs2.2.2 x hx y hy
  by_cases h0 : k = 0
  · left
    subst h0
    have : decide ((0 : Int) < ((0 : Nat) : Int)) = false := by simp
    simp only [this, Bool.false_eq_true, if_false, Option.bind_some]
    exact hstop (by simp)
  · have hk1 : k - 1 < out.length := by omega
    have e1 : decide ((0 : Int) < (k : Int)) = true := by rw [decide_eq_true_eq]; omega
    have e2 : i64 ((k : Int) - 1) = ((k - 1 : Nat) : Int) := by rw [i64_id (by omega) (by omega)]; omega
    have e3 : getI out ((k - 1 : Nat) : Int) = some out[k - 1] := by rw [getI_nat]; exact List.getElem?_eq_getElem hk1
    have hyin := hin out[k - 1] (List.getElem_mem hk1)
    obtain ⟨b, hb, rb⟩ := hl.get hyin
    simp only [e1, if_true, ha, Option.bind_some, e2, e3, hb, before_eq t ht home m a b ra rb]
    by_cases hlt : cmpR t home m a b < 0
    · right
      rw [if_pos (by simpa using hlt)]
      refine ⟨_, rfl, ⟨k - 1, rfl, by omega, fun y hy => ?_⟩, by simp only [Int.toNat_natCast]; omega⟩
      have : out.drop (k - 1) = out[k - 1] :: out.drop k := by
        rw [List.drop_eq_getElem_cons hk1]; congr 2; omega
      rw [this] at hy
      rcases List.mem_cons.1 hy with hy | hy
      · rw [hy, cmpI_of ha hb]; exact hlt
      · exact hd y hy
    · left
      rw [if_neg (by simpa using hlt)]
      refine hstop (fun y hy => ?_)
      have hlast : Le (cmpI t home m l) out[k - 1] (i : Int) := by unfold Le; rw [cmpI_of ha hb]; exact hlt
      obtain ⟨j, hj, hjy⟩ := List.mem_iff_getElem.1 hy
      rw [List.getElem_take] at hjy
      have hjk : j < k := by rw [List.length_take] at hj; omega
      by_cases hjk1 : j = k - 1
      · subst hjk1; rw [← hjy]; exact hlast
      · have h1 := List.pairwise_iff_getElem.1 hs j (k - 1) (by omega) hk1 (by omega)
        rw [hjy] at h1
        exact hO.trans y out[k - 1] (i : Int) (hin y (List.mem_of_mem_take hy)) hyin ⟨by omega, by omega⟩ h1 hlast
theorem RefOrder_ok (t : List Rate) (ht : ratesOK t) (home m : Int) (hm : 0 ≤ m ∧ m ≤ 2399) (l : List Right) (hl : rightsOK l) (o : List Int) (hp : o.Perm (upTo l.length)) (hs : o.Pairwise (Le (cmpI t home m l))) :
    pensionref21_Order l home t m = some (o, 0) := by
  obtain ⟨v, hv, hv2⟩ := ValidRights_eq l
  have hvt : v = true := by rcases hv2 with h | h; exact h.1; exact absurd hl h.2
  subst hvt
  obtain ⟨c, hc, hc2⟩ := ref_CheckRates_eq t
  have hc0 : c = 0 := by rcases hc2 with h | h; exact h.1; exact absurd ht h.2
  subst hc0
  have hl6 := hl.1
  unfold pensionref21_Order pensionref21_okRates pensionref1_ValidMonth
  have e1 : (decide (0 ≤ m) && decide (m ≤ 2399)) = true := by rw [Bool.and_eq_true]; exact ⟨decide_eq_true hm.1, decide_eq_true hm.2⟩
  rw [hv, hc]
  simp only [Option.bind_some, e1, if_true, Bool.not_true, Bool.false_eq_true, if_false, beq_self_eq_true]
  obtain ⟨r, h1, h2⟩ := loopC_FU (f := pensionref21_Order_l l home t m) (fun s => ∃ x : Nat, s.2 = (x : Int) ∧ x ≤ l.length ∧ s.1.Perm (upTo x) ∧ s.1.Pairwise (Le (cmpI t home m l))) (fun s => l.length - s.2.toNat) (fun r => r = (o, 0)) (s := ([], 0))
    ⟨0, rfl, Nat.zero_le _, List.Perm.refl _, List.Pairwise.nil⟩ (by show l.length - _ < _; omega) (by
    rintro ⟨out, i⟩ rec ⟨x, hix, hx, hpx, hsx⟩
    simp only at hix hpx hsx
    subst hix
    unfold pensionref21_Order_l
    dsimp only
    by_cases h : x < l.length
    · right
      rw [if_pos (by simp; omega)]
      obtain ⟨out', h1, h2, h3⟩ := insert_ref t ht home m l hl out x h hpx hsx rec
      exact ⟨_, h3, ⟨x + 1, rfl, h, h1, h2⟩, by simp only [Int.toNat_natCast]; omega⟩
    · left
      have : x = l.length := by omega
      subst this
      rw [if_neg (by simp)]
      refine ⟨_, rfl, ?_⟩
      have : out = o := List.Perm.eq_of_pairwise (le := Le (cmpI t home m l)) (fun a b ha hb h1 h2 => Le_anti hl (upTo_mem.1 (hpx.subset ha)) (upTo_mem.1 (hp.subset hb)) h1 h2) hsx hs (hpx.trans hp.symm)
      rw [this])
  rw [h1, h2]
theorem Ints_refl (o : List Int) (hl : o.length ≤ 1000) : pensionplain_Ints o o = some true := by
  unfold pensionplain_Ints
  rw [if_neg (by simp)]
  obtain ⟨r, h1, h2⟩ := loopC_FU (f := pensionplain_Ints_l o o) (fun s => ∃ x : Nat, s = (x : Int) ∧ x ≤ o.length) (fun s => o.length - s.toNat) (fun r => r = true) (s := 0) ⟨0, rfl, Nat.zero_le _⟩ (by show o.length - _ < _; omega) (by
    rintro s rec ⟨x, rfl, hx⟩
    unfold pensionplain_Ints_l
    by_cases h : x < o.length
    · right
      have hg : getI o (x : Int) = some o[x] := by rw [getI_nat]; exact List.getElem?_eq_getElem h
      rw [if_pos (by simp; omega), hg]
      simp only [Option.bind_some, bne_self_eq_false, Bool.false_eq_true, if_false]
      rw [i64_id (n := (x : Int) + 1) (by omega) (by omega)]
      exact ⟨((x + 1 : Nat) : Int), rfl, ⟨x + 1, rfl, h⟩, by simp only [Int.toNat_natCast]; omega⟩
    · left
      rw [if_neg (by simp; omega)]
      exact ⟨_, rfl, rfl⟩)
  rw [h1, h2]
theorem FamilyOrderAgrees_true (d : List pensionlaw24_Raw) (hd : d.length ≤ 9223372036854775807) (i : Int) (p : List Int) (hp : p.length ≤ 9223372036854775807) (p2 : Int) : pensionlaw24_FamilyOrderAgrees d i p p2 = some true := by
  obtain ⟨l, hl, hok⟩ := List_ok d hd
  obtain ⟨t, ht, htok⟩ := Rates_ok p hp
  have hm : 0 ≤ p2 % 2400 ∧ p2 % 2400 ≤ 2399 := by omega
  unfold pensionlaw24_FamilyOrderAgrees
  rw [hl, Option.bind_some, ht, Option.bind_some, mod_month, Option.bind_some, mod_home, Option.bind_some]
  obtain ⟨o, ho, hpo, hs⟩ := Order_ok t htok (i64 (i % 8 - 1)) (p2 % 2400) hm l hok.ok
  rw [ho, RefOrder_ok t htok _ _ hm l hok.ok o hpo hs, awake_eq]
  have hol : o.length ≤ 1000 := by rw [hpo.length_eq, upTo_length]; have := hok.ok.1; omega
  simp [Ints_refl o hol]
end Go.PL
