/- The claims in effect: the program's and the reference's. DecisionSelectAgrees is true. Plain Lean. -/
import Derived.Test.YtndkbfbjjnhgoaaGreatCmpC
set_option linter.unusedSimpArgs false
set_option linter.unusedVariables false
namespace Go.PL
open Go

/-- Whether a claim has started by a month. -/
def st (m : Int) (c : Claim) : Bool := match decision_Start c with | some (s, _) => decide (s ≤ m) | none => false
theorem st_dec {m : Int} {c : Claim} (h : handOK c) : decision_started c m = some (st m c) := by
  obtain ⟨s, h1, _⟩ := start_ok (c := c) (by have := h.2; omega)
  unfold decision_started st
  rw [h1]; rfl
/-- The least of the claims of a kind. -/
def minIn (P : Claim → Prop) (l : List Claim) (c : Claim) : Prop := c ∈ l ∧ P c ∧ ∀ d ∈ l, P d → ¬ cmpC d c < 0
theorem minIn_uniq {P : Claim → Prop} {l : List Claim} {a b : Claim} (ha : minIn P l a) (hb : minIn P l b) : a = b :=
  cmpC_anti (hb.2.2 a ha.1 ha.2.1) (ha.2.2 b hb.1 hb.2.1)
theorem minIn_congr {P : Claim → Prop} {l l2 : List Claim} (h : ∀ c, c ∈ l ↔ c ∈ l2) (c : Claim) : minIn P l c ↔ minIn P l2 c := by
  unfold minIn
  rw [h c]
  exact ⟨fun ⟨a, b, d⟩ => ⟨a, b, fun x hx => d x ((h x).2 hx)⟩, fun ⟨a, b, d⟩ => ⟨a, b, fun x hx => d x ((h x).1 hx)⟩⟩
/-- A claim behind all others. -/
theorem minIn_snoc {P : Claim → Prop} {A : List Claim} {y c : Claim} (hA : ∀ d ∈ A, cmpC d y < 0) : minIn P (A ++ [y]) c ↔ minIn P A c ∨ (c = y ∧ P y ∧ ∀ d ∈ A, ¬ P d) := by
  unfold minIn
  constructor
  · rintro ⟨h1, h2, h3⟩
    rcases List.mem_append.1 h1 with h1 | h1
    · exact .inl ⟨h1, h2, fun d hd => h3 d (by simp [hd])⟩
    · have : c = y := by simpa using h1
      subst this
      exact .inr ⟨rfl, h2, fun d hd hP => h3 d (by simp [hd]) hP (hA d hd)⟩
  · rintro (⟨h1, h2, h3⟩ | ⟨rfl, h2, h3⟩)
    · refine ⟨by simp [h1], h2, fun d hd hP => ?_⟩
      rcases List.mem_append.1 hd with hd | hd
      · exact h3 d hd hP
      · have : d = y := by simpa using hd
        subst this
        intro h4
        exact cmpC_irrefl c (cmpC_trans (hA c h1) h4)
    · refine ⟨by simp, h2, fun d hd hP => ?_⟩
      rcases List.mem_append.1 hd with hd | hd
      · exact absurd hP (h3 d hd)
      · have : d = c := by simpa using hd
        subst this
        exact cmpC_irrefl d
/-- The claims in effect of a person in a month. -/
def Sel (l : List Claim) (p m : Int) (c : Claim) : Prop :=
  (c.Benefit = 4 ∧ c.Person = p ∧ minIn (fun d => d.Benefit = 4 ∧ d.Ref = c.Ref ∧ st m d = true) l c) ∨ (c.Benefit ≠ 4 ∧ st m c = true ∧ minIn (fun d => d.Benefit ≠ 4 ∧ d.Person = p ∧ d.Benefit = c.Benefit) l c)
theorem Sel.mem {l : List Claim} {p m : Int} {c : Claim} (h : Sel l p m c) : c ∈ l := by
  rcases h with ⟨_, _, h⟩ | ⟨_, _, h⟩ <;> exact h.1
theorem Sel_congr {l l2 : List Claim} (h : ∀ c, c ∈ l ↔ c ∈ l2) (p m : Int) (c : Claim) : Sel l p m c ↔ Sel l2 p m c := by
  unfold Sel
  rw [minIn_congr h, minIn_congr h]
/-- Two claims in effect are of another benefit or for another child. -/
theorem Sel_key {l : List Claim} {p m : Int} {a b : Claim} (ha : Sel l p m a) (hb : Sel l p m b) (h1 : a.Benefit = b.Benefit) (h2 : a.Benefit = 4 → a.Ref = b.Ref) : a = b := by
  rcases ha with ⟨a1, a2, a3⟩ | ⟨a1, a2, a3⟩ <;> rcases hb with ⟨b1, b2, b3⟩ | ⟨b1, b2, b3⟩
  · rw [← h2 a1] at b3; exact minIn_uniq a3 b3
  · exact absurd (h1 ▸ a1) b1
  · exact absurd (h1.trans b1) a1
  · rw [← h1] at b3; exact minIn_uniq a3 b3
def cmpK (a b : Claim) : Int := orI [sgn a.Benefit b.Benefit, sgn a.Ref b.Ref]
theorem cmpK_neg (a b : Claim) : cmpK a b < 0 ↔ a.Benefit < b.Benefit ∨ a.Benefit = b.Benefit ∧ a.Ref < b.Ref := by
  unfold cmpK
  simp only [orI_cons, sgn_neg, sgn_zero]
  simp [orI]
theorem ordered_cmpK (S : Claim → Prop) : Ordered cmpK S := by
  constructor
  · intro x y _ _; rw [cmpK_neg, cmpK_neg]; omega
  · intro x y z _ _ _; rw [cmpK_neg, cmpK_neg, cmpK_neg]; omega
theorem effective_1_eq (a b : Claim) : decision_effective_1 a b = some (cmpK a b) := by
  unfold decision_effective_1
  simp only [Compare_int, Option.bind_some]
  rw [Or_eq _ (by simp)]; rfl
theorem Stable_eq (l : List Claim) (hl : l.length ≤ 19) : ∃ r, slices_SortStableFunc_of_api_Claim l (fun x => decision_effective_1 x.1 x.2) = some r ∧ r.Perm l ∧ r.Pairwise (Le cmpK) := by
  obtain ⟨r, h1, h2, h3⟩ := insertion_eq (c := cmpK) (S := fun _ => True) (cmp := fun x => decision_effective_1 x.1 x.2) (ordered_cmpK _) (fun x y _ _ => effective_1_eq x y) l (fun _ _ => trivial) (by omega)
  refine ⟨r, ?_, h2, h3⟩
  have hrl : r.length = l.length := h2.length_eq
  unfold slices_SortStableFunc_of_api_Claim slices_stableCmpFunc_of_api_Claim
  have key : ∀ k, 0 < k → loopC k (slices_stableCmpFunc_of_api_Claim_l (l.length : Int) (fun x => decision_effective_1 x.1 x.2)) (0, 20, l) = some r := by
    intro k hk
    cases k with
    | zero => exact absurd hk (Nat.lt_irrefl 0)
    | succ k =>
      show slices_stableCmpFunc_of_api_Claim_l _ _ _ _ = _
      unfold slices_stableCmpFunc_of_api_Claim_l
      dsimp only
      rw [if_neg (by simp; omega), h1, Option.bind_some]
      have key2 : ∀ k, 0 < k → loopC k (slices_stableCmpFunc_of_api_Claim_l2 (l.length : Int) r) 20 = some r := by
        intro k hk
        cases k with
        | zero => exact absurd hk (Nat.lt_irrefl 0)
        | succ k =>
          show slices_stableCmpFunc_of_api_Claim_l2 _ _ _ _ = _
          unfold slices_stableCmpFunc_of_api_Claim_l2
          rw [if_neg (by simp; omega)]
      exact key2 FU (by unfold FU; omega)
  rw [key FU (by unfold FU; omega), Option.bind_some]
theorem setI_get {v : List Bool} {i k : Nat} (hi : i < v.length) : (setI v (i : Int) true)[k]? = some true ↔ v[k]? = some true ∨ k = i := by
  unfold setI
  rw [if_pos (by omega), Int.toNat_natCast]
  by_cases h : k = i
  · subst h; simp [hi]
  · rw [List.getElem?_set_ne (by omega)]; simp [h]
theorem effective_eq (q : List Claim) (hq : q.Pairwise (fun a b => cmpC a b < 0)) (hl : q.length ≤ 12) (hok : ∀ c ∈ q, handOK c) (p m : Int) :
    ∃ r, decision_effective q p m = some r ∧ r.Nodup ∧ (∀ c, c ∈ r ↔ Sel q p m c) ∧ r.Pairwise (Le cmpK) := by
  have hnd : q.Nodup := hq.imp fun {a b} h e => by subst e; exact cmpC_irrefl a h
  unfold decision_effective
  refine loopC_FU (fun s => ∃ x : Nat, s.2.1 = (x : Int) ∧ x ≤ q.length ∧ s.1.Sublist (q.take x) ∧ (∀ c, c ∈ s.1 ↔ Sel (q.take x) p m c) ∧ s.2.2.1.length = 100 ∧ s.2.2.2.length = 6 ∧
      (∀ k : Nat, s.2.2.1[k]? = some true ↔ ∃ d ∈ q.take x, d.Benefit = 4 ∧ d.Ref = (k : Int) ∧ st m d = true) ∧ (∀ k : Nat, s.2.2.2[k]? = some true ↔ ∃ d ∈ q.take x, d.Benefit ≠ 4 ∧ d.Person = p ∧ d.Benefit = (k : Int))) (fun s => q.length - s.2.1.toNat) _
    ⟨0, rfl, Nat.zero_le _, by simp, fun c => by simp; intro h; have := h.mem; simp at this, by simp, by simp, fun k => by simp only [List.getElem?_replicate]; simp, fun k => by simp only [List.getElem?_replicate]; simp⟩ (by show q.length - _ < _; omega) ?_
  rintro ⟨out, x', v, v2⟩ rec ⟨x, hxx, hx, hsub, hsel, hv, hv2, hc, hs⟩
  simp only at hxx hsub hsel hv hv2 hc hs
  subst hxx
  unfold decision_effective_l decision_effective_j
  dsimp only
  by_cases h : x < q.length
  · right
    have hg : getI q (x : Int) = some q[x] := by rw [getI_nat]; exact List.getElem?_eq_getElem h
    have hy := hok q[x] (List.getElem_mem h)
    have htk : q.take (x + 1) = q.take x ++ [q[x]] := List.take_succ_eq_append_getElem h
    have hlast : ∀ d ∈ q.take x, cmpC d q[x] < 0 := by
      intro d hd
      obtain ⟨j, hj, hjd⟩ := List.mem_iff_getElem.1 hd
      rw [List.getElem_take] at hjd
      rw [List.length_take] at hj
      have := List.pairwise_iff_getElem.1 hq j x (by omega) h (by omega)
      rwa [hjd] at this
    generalize q[x] = y at *
    have hol : out.length ≤ 12 := by have := hsub.length_le; rw [List.length_take] at this; omega
    have e1 : i64 ((x : Int) + 1) = ((x + 1 : Nat) : Int) := by rw [i64_id (by omega) (by omega)]; simp
    have hd0 : decide ((x : Int) < (q.length : Int)) = true := decide_eq_true (by omega)
    have hap : appI 48 out [y] = some (out ++ [y]) := appI_of (by simp only [List.length_cons, List.length_nil]; omega)
    simp only [hd0, if_true, hg, Option.bind_some, st_dec hy, e1, hap]
    obtain ⟨⟨_, _, _, hben⟩, _⟩ := hy
    -- what comes behind
    have hnext : ∀ (o' : List Claim) (w w2 : List Bool), o'.Sublist (q.take (x + 1)) → (∀ c, c ∈ o' ↔ Sel (q.take (x + 1)) p m c) → w.length = 100 → w2.length = 6 →
        (∀ k : Nat, w[k]? = some true ↔ ∃ d ∈ q.take (x + 1), d.Benefit = 4 ∧ d.Ref = (k : Int) ∧ st m d = true) → (∀ k : Nat, w2[k]? = some true ↔ ∃ d ∈ q.take (x + 1), d.Benefit ≠ 4 ∧ d.Person = p ∧ d.Benefit = (k : Int)) →
        ∃ s' : List Claim × Int × List Bool × List Bool, rec (o', ((x + 1 : Nat) : Int), w, w2) = rec s' ∧ (∃ x : Nat, s'.2.1 = (x : Int) ∧ x ≤ q.length ∧ s'.1.Sublist (q.take x) ∧ (∀ c, c ∈ s'.1 ↔ Sel (q.take x) p m c) ∧ s'.2.2.1.length = 100 ∧ s'.2.2.2.length = 6 ∧
      (∀ k : Nat, s'.2.2.1[k]? = some true ↔ ∃ d ∈ q.take x, d.Benefit = 4 ∧ d.Ref = (k : Int) ∧ st m d = true) ∧ (∀ k : Nat, s'.2.2.2[k]? = some true ↔ ∃ d ∈ q.take x, d.Benefit ≠ 4 ∧ d.Person = p ∧ d.Benefit = (k : Int))) ∧ q.length - s'.2.1.toNat < q.length - (x : Int).toNat :=
      fun o' w w2 a b c d e f => ⟨_, rfl, ⟨x + 1, rfl, h, a, b, c, d, e, f⟩, by simp only [Int.toNat_natCast]; omega⟩
    have hsub0 : out.Sublist (q.take (x + 1)) := by rw [htk]; exact hsub.trans (List.sublist_append_left _ _)
    have hsub1 : (out ++ [y]).Sublist (q.take (x + 1)) := by rw [htk]; exact hsub.append (List.Sublist.refl _)
    -- the claims in effect with one more
    have hSel : ∀ c, Sel (q.take (x + 1)) p m c ↔ Sel (q.take x) p m c ∨ c = y ∧ ((y.Benefit = 4 ∧ y.Person = p ∧ st m y = true ∧ ∀ d ∈ q.take x, ¬ (d.Benefit = 4 ∧ d.Ref = y.Ref ∧ st m d = true)) ∨ (y.Benefit ≠ 4 ∧ st m y = true ∧ y.Person = p ∧ ∀ d ∈ q.take x, ¬ (d.Benefit ≠ 4 ∧ d.Person = p ∧ d.Benefit = y.Benefit))) := by
      intro c
      unfold Sel
      rw [htk, minIn_snoc hlast, minIn_snoc hlast]
      constructor
      · rintro (⟨a1, a2, a3 | ⟨rfl, a4, a5⟩⟩ | ⟨a1, a2, a3 | ⟨rfl, a4, a5⟩⟩)
        · exact .inl (.inl ⟨a1, a2, a3⟩)
        · exact .inr ⟨rfl, .inl ⟨a1, a2, a4.2.2, a5⟩⟩
        · exact .inl (.inr ⟨a1, a2, a3⟩)
        · exact .inr ⟨rfl, .inr ⟨a1, a2, a4.2.1, a5⟩⟩
      · rintro ((⟨a1, a2, a3⟩ | ⟨a1, a2, a3⟩) | ⟨rfl, ⟨a1, a2, a3, a4⟩ | ⟨a1, a2, a3, a4⟩⟩)
        · exact .inl ⟨a1, a2, .inl a3⟩
        · exact .inr ⟨a1, a2, .inl a3⟩
        · exact .inl ⟨a1, a2, .inr ⟨rfl, ⟨a1, rfl, a3⟩, a4⟩⟩
        · exact .inr ⟨a1, a2, .inr ⟨rfl, ⟨a1, a3, rfl⟩, a4⟩⟩
    have hkeep : (¬ ((y.Benefit = 4 ∧ y.Person = p ∧ st m y = true ∧ ∀ d ∈ q.take x, ¬ (d.Benefit = 4 ∧ d.Ref = y.Ref ∧ st m d = true)) ∨ (y.Benefit ≠ 4 ∧ st m y = true ∧ y.Person = p ∧ ∀ d ∈ q.take x, ¬ (d.Benefit ≠ 4 ∧ d.Person = p ∧ d.Benefit = y.Benefit)))) → ∀ c, c ∈ out ↔ Sel (q.take (x + 1)) p m c := by
      intro hn c
      rw [hSel, hsel]
      exact ⟨.inl, fun hh => hh.elim id (fun h2 => absurd h2.2 hn)⟩
    have hadd : ((y.Benefit = 4 ∧ y.Person = p ∧ st m y = true ∧ ∀ d ∈ q.take x, ¬ (d.Benefit = 4 ∧ d.Ref = y.Ref ∧ st m d = true)) ∨ (y.Benefit ≠ 4 ∧ st m y = true ∧ y.Person = p ∧ ∀ d ∈ q.take x, ¬ (d.Benefit ≠ 4 ∧ d.Person = p ∧ d.Benefit = y.Benefit))) → ∀ c, c ∈ out ++ [y] ↔ Sel (q.take (x + 1)) p m c := by
      intro hn c
      rw [hSel, List.mem_append, hsel, List.mem_singleton]
      exact ⟨fun hh => hh.elim .inl (fun h2 => .inr ⟨h2, hn⟩), fun hh => hh.elim .inl (fun h2 => .inr h2.1)⟩
    have memx : ∀ (Q : Claim → Prop), (∃ d ∈ q.take (x + 1), Q d) ↔ (∃ d ∈ q.take x, Q d) ∨ Q y := by
      intro Q
      rw [htk]
      constructor
      · rintro ⟨d, hd, hQ⟩
        rcases List.mem_append.1 hd with hd | hd
        · exact .inl ⟨d, hd, hQ⟩
        · have : d = y := by simpa using hd
          subst this; exact .inr hQ
      · rintro (⟨d, hd, hQ⟩ | hQ)
        · exact ⟨d, by simp [hd], hQ⟩
        · exact ⟨y, by simp, hQ⟩
    by_cases hb : y.Benefit = 4
    · have hr : 1 ≤ y.Ref ∧ y.Ref ≤ 99 := by
        rcases hben with h1 | h1
        · exact ⟨h1.2.1, h1.2.2.1⟩
        · omega
      have eR : ((y.Ref.toNat : Nat) : Int) = y.Ref := by omega
      have hvg : ∃ b, getI v y.Ref = some b ∧ v[y.Ref.toNat]? = some b := by
        obtain ⟨b, h1, h2⟩ := getI_of (l := v) (i := y.Ref) (by omega) (by omega)
        exact ⟨b, h1, h2⟩
      obtain ⟨b, hb1, hb2⟩ := hvg
      have hsame2 : ∀ k : Nat, v2[k]? = some true ↔ ∃ d ∈ q.take (x + 1), d.Benefit ≠ 4 ∧ d.Person = p ∧ d.Benefit = (k : Int) := by
        intro k
        rw [hs, memx]
        exact ⟨.inl, fun hh => hh.elim id (fun h2 => absurd hb h2.1)⟩
      simp only [show (y.Benefit == 4) = true by simpa using hb, if_true, hb1, Option.bind_some]
      cases hst : st m y with
      | false =>
        simp only [Bool.false_eq_true, if_false, Option.bind_some]
        refine hnext _ _ _ hsub0 (hkeep ?_) hv hv2 (fun k => ?_) hsame2
        · rintro (⟨_, _, h3, _⟩ | ⟨h3, _⟩)
          · rw [hst] at h3; cases h3
          · exact h3 hb
        · rw [hc, memx]
          exact ⟨.inl, fun hh => hh.elim id (fun h2 => by rw [hst] at h2; cases h2.2.2)⟩
      | true =>
        simp only [if_true, Option.bind_some]
        cases b with
        | true =>
          simp only [Bool.not_true, Bool.false_eq_true, if_false]
          obtain ⟨d, hd, hd1, hd2, hd3⟩ := (hc _).1 hb2
          refine hnext _ _ _ hsub0 (hkeep ?_) hv hv2 (fun k => ?_) hsame2
          · rintro (⟨_, _, _, h3⟩ | ⟨h3, _⟩)
            · exact h3 d hd ⟨hd1, by rw [hd2, eR], hd3⟩
            · exact h3 hb
          · rw [hc, memx]
            refine ⟨.inl, fun hh => hh.elim id (fun h2 => ⟨d, hd, hd1, ?_, hd3⟩)⟩
            rw [hd2, eR]; exact h2.2.1
        | false =>
          simp only [Bool.not_false, if_true]
          have hno : ∀ d ∈ q.take x, ¬ (d.Benefit = 4 ∧ d.Ref = y.Ref ∧ st m d = true) := by
            rintro d hd ⟨d1, d2, d3⟩
            have := (hc y.Ref.toNat).2 ⟨d, hd, d1, by rw [d2, eR], d3⟩
            rw [hb2] at this; cases this
          have hv' : ∀ k : Nat, (setI v y.Ref true)[k]? = some true ↔ ∃ d ∈ q.take (x + 1), d.Benefit = 4 ∧ d.Ref = (k : Int) ∧ st m d = true := by
            intro k
            rw [← eR, setI_get (by omega), hc, memx]
            constructor
            · rintro (h2 | h2)
              · exact .inl h2
              · exact .inr ⟨hb, by omega, hst⟩
            · rintro (h2 | h2)
              · exact .inl h2
              · exact .inr (by have := h2.2.1; omega)
          by_cases hp : y.Person = p
          · rw [if_pos (by simpa using hp)]
            exact hnext _ _ _ hsub1 (hadd (.inl ⟨hb, hp, hst, hno⟩)) (by rw [length_setI]; exact hv) hv2 hv' hsame2
          · rw [if_neg (by simpa using hp)]
            refine hnext _ _ _ hsub0 (hkeep ?_) (by rw [length_setI]; exact hv) hv2 hv' hsame2
            rintro (⟨_, h3, _⟩ | ⟨h3, _⟩)
            · exact hp h3
            · exact h3 hb
    · have hbr : 1 ≤ y.Benefit ∧ y.Benefit ≤ 5 := by omega
      have eB : ((y.Benefit.toNat : Nat) : Int) = y.Benefit := by omega
      obtain ⟨b, hb1, hb2⟩ := getI_of (l := v2) (i := y.Benefit) (by omega) (by omega)
      have hsame1 : ∀ k : Nat, v[k]? = some true ↔ ∃ d ∈ q.take (x + 1), d.Benefit = 4 ∧ d.Ref = (k : Int) ∧ st m d = true := by
        intro k
        rw [hc, memx]
        exact ⟨.inl, fun hh => hh.elim id (fun h2 => absurd h2.1 hb)⟩
      simp only [show (y.Benefit == 4) = false by simpa using hb, Bool.false_eq_true, if_false, hb1, Option.bind_some]
      by_cases hp : y.Person = p
      · simp only [show (y.Person == p) = true by simpa using hp, if_true, Option.bind_some]
        cases b with
        | true =>
          simp only [Bool.not_true, Bool.false_eq_true, if_false]
          obtain ⟨d, hd, hd1, hd2, hd3⟩ := (hs _).1 hb2
          refine hnext _ _ _ hsub0 (hkeep ?_) hv hv2 hsame1 (fun k => ?_)
          · rintro (⟨h3, _⟩ | ⟨_, _, _, h3⟩)
            · exact hb h3
            · exact h3 d hd ⟨hd1, hd2, by rw [hd3, eB]⟩
          · rw [hs, memx]
            refine ⟨.inl, fun hh => hh.elim id (fun h2 => ⟨d, hd, hd1, hd2, ?_⟩)⟩
            rw [hd3, eB]; exact h2.2.2
        | false =>
          simp only [Bool.not_false, if_true]
          have hno : ∀ d ∈ q.take x, ¬ (d.Benefit ≠ 4 ∧ d.Person = p ∧ d.Benefit = y.Benefit) := by
            rintro d hd ⟨d1, d2, d3⟩
            have := (hs y.Benefit.toNat).2 ⟨d, hd, d1, d2, by rw [d3, eB]⟩
            rw [hb2] at this; cases this
          have hv' : ∀ k : Nat, (setI v2 y.Benefit true)[k]? = some true ↔ ∃ d ∈ q.take (x + 1), d.Benefit ≠ 4 ∧ d.Person = p ∧ d.Benefit = (k : Int) := by
            intro k
            rw [← eB, setI_get (by omega), hs, memx]
            constructor
            · rintro (h2 | h2)
              · exact .inl h2
              · exact .inr ⟨hb, hp, by omega⟩
            · rintro (h2 | h2)
              · exact .inl h2
              · exact .inr (by have := h2.2.2; omega)
          cases hst : st m y with
          | true =>
            simp only [if_true]
            exact hnext _ _ _ hsub1 (hadd (.inr ⟨hb, hst, hp, hno⟩)) hv (by rw [length_setI]; exact hv2) hsame1 hv'
          | false =>
            simp only [Bool.false_eq_true, if_false]
            refine hnext _ _ _ hsub0 (hkeep ?_) hv (by rw [length_setI]; exact hv2) hsame1 hv'
            rintro (⟨h3, _⟩ | ⟨_, h3, _⟩)
            · exact hb h3
            · rw [hst] at h3; cases h3
      · simp only [show (y.Person == p) = false by simpa using hp, Bool.false_eq_true, if_false, Option.bind_some]
        refine hnext _ _ _ hsub0 (hkeep ?_) hv hv2 hsame1 (fun k => ?_)
        · rintro (⟨h3, _⟩ | ⟨_, _, h3, _⟩)
          · exact hb h3
          · exact hp h3
        · rw [hs, memx]
          exact ⟨.inl, fun hh => hh.elim id (fun h2 => absurd h2.2.1 hp)⟩
  · left
    have : x = q.length := by omega
    subst this
    rw [List.take_length] at hsub hsel
    have hd0 : decide ((q.length : Int) < (q.length : Int)) = false := decide_eq_false (by omega)
    have hol := hsub.length_le
    obtain ⟨r, h1, h2, h3⟩ := Stable_eq out (by omega)
    simp only [hd0, Bool.false_eq_true, if_false, h1, Option.bind_some]
    exact ⟨r, rfl, (h2.nodup_iff).2 (hsub.nodup hnd), fun c => by rw [h2.mem_iff, hsel], h3⟩
theorem SameC_refl (o : List Claim) (hl : o.length ≤ 1000) : pensionplain_Same_of_api_Claim o o = some true := by
  unfold pensionplain_Same_of_api_Claim
  rw [if_neg (by simp)]
  obtain ⟨r, h1, h2⟩ := loopC_FU (f := pensionplain_Same_of_api_Claim_l o o) (fun s => ∃ x : Nat, s = (x : Int) ∧ x ≤ o.length) (fun s => o.length - s.toNat) (fun r => r = true) (s := 0) ⟨0, rfl, Nat.zero_le _⟩ (by show o.length - _ < _; omega) (by
    rintro s rec ⟨x, rfl, hx⟩
    unfold pensionplain_Same_of_api_Claim_l
    by_cases h : x < o.length
    · right
      have hg : getI o (x : Int) = some o[x] := by rw [getI_nat]; exact List.getElem?_eq_getElem h
      rw [if_pos (by simp; omega), hg]
      simp only [Option.bind_some, Claim_eqb, decide_true, Bool.not_true, Bool.false_eq_true, if_false]
      rw [i64_id (n := (x : Int) + 1) (by omega) (by omega)]
      exact ⟨((x + 1 : Nat) : Int), rfl, ⟨x + 1, rfl, h⟩, by simp only [Int.toNat_natCast]; omega⟩
    · left
      rw [if_neg (by simp; omega)]
      exact ⟨_, rfl, rfl⟩)
  rw [h1, h2]
end Go.PL
