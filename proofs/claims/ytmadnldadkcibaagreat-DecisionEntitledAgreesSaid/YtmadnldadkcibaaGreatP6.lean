/- Texts that the proof stands on: laws of the program logic, the Lean functions of the Go functions, and that the Go functions compute them. -/
import Derived.Test.YtmadnldadkcibaaGreatP5
import Derived.KernelRfl
set_option linter.unusedVariables false
set_option linter.unusedSimpArgs false
set_option maxRecDepth 100000
namespace Go.PL
open Go Go.SX
def st (m : Int) (c : Claim) : Bool := match fq c with | some (s, _) => decide (s ≤ m) | none => false
theorem afg {m : Int} {c : Claim} (h : uf c) : oj c m = some (st m c) := by
  obtain ⟨s, h1, _⟩ := Nx (c := c) (by have := h.2; omega)
  unfold oj st
  rw [h1]; rfl
def Cf (P : Claim → Prop) (l : List Claim) (c : Claim) : Prop := c ∈ l ∧ P c ∧ ∀ d ∈ l, P d → ¬ Gz d c < 0
theorem C3 {P : Claim → Prop} {l : List Claim} {a b : Claim} (ha : Cf P l a) (hb : Cf P l b) : a = b :=
  Qc (hb.2.2 a ha.1 ha.2.1) (ha.2.2 b hb.1 hb.2.1)
theorem Hp {P : Claim → Prop} {l l2 : List Claim} (h : ∀ c, c ∈ l ↔ c ∈ l2) (c : Claim) : Cf P l c ↔ Cf P l2 c := by
  unfold Cf
  rw [h c]
  exact ⟨fun ⟨a, b, d⟩ => ⟨a, b, fun x hx => d x ((h x).2 hx)⟩, fun ⟨a, b, d⟩ => ⟨a, b, fun x hx => d x ((h x).1 hx)⟩⟩
theorem Me {P : Claim → Prop} {A : List Claim} {y c : Claim} (hA : ∀ d ∈ A, Gz d y < 0) : Cf P (A ++ [y]) c ↔ Cf P A c ∨ (c = y ∧ P y ∧ ∀ d ∈ A, ¬ P d) := by
  unfold Cf
  constructor
  · rintro ⟨h1, h2, h3⟩
    rcases List.mem_append.1 h1 with h1 | h1
    · exact .inl ⟨h1, h2, fun d hd => h3 d (by simp [hd])⟩
    · have : c = y := by simpa using h1
      subst this
      exact .inr ⟨rfl, h2, fun d hd hP => h3 d (by simp [hd]) hP (hA d hd)⟩
  · rintro (⟨h1, h2, h3⟩ | ⟨rfl, h2, h3⟩)
    · refine ⟨by simp [h1], h2, fun d hd hP => ?_⟩
      rcases List.mem_append.1 hd with hd | hd
      · exact h3 d hd hP
      · have : d = y := by simpa using hd
        subst this
        intro h4
        exact yg c (F8 (hA c h1) h4)
    · refine ⟨by simp, h2, fun d hd hP => ?_⟩
      rcases List.mem_append.1 hd with hd | hd
      · exact absurd hP (h3 d hd)
      · have : d = c := by simpa using hd
        subst this
        exact yg d
def Sel (l : List Claim) (p m : Int) (c : Claim) : Prop :=
  (c.Benefit = 4 ∧ c.Person = p ∧ Cf (fun d => d.Benefit = 4 ∧ d.Ref = c.Ref ∧ st m d = true) l c) ∨ (c.Benefit ≠ 4 ∧ st m c = true ∧ Cf (fun d => d.Benefit ≠ 4 ∧ d.Person = p ∧ d.Benefit = c.Benefit) l c)
theorem Sel.mem {l : List Claim} {p m : Int} {c : Claim} (h : Sel l p m c) : c ∈ l := by
  rcases h with ⟨_, _, h⟩ | ⟨_, _, h⟩ <;> exact h.1
theorem a2b {l l2 : List Claim} (h : ∀ c, c ∈ l ↔ c ∈ l2) (p m : Int) (c : Claim) : Sel l p m c ↔ Sel l2 p m c := by
  unfold Sel
  rw [Hp h, Hp h]
theorem Tp {l : List Claim} {p m : Int} {a b : Claim} (ha : Sel l p m a) (hb : Sel l p m b) (h1 : a.Benefit = b.Benefit) (h2 : a.Benefit = 4 → a.Ref = b.Ref) : a = b := by
  rcases ha with ⟨a1, a2, a3⟩ | ⟨a1, a2, a3⟩ <;> rcases hb with ⟨b1, b2, b3⟩ | ⟨b1, b2, b3⟩
  · rw [← h2 a1] at b3; exact C3 a3 b3
  · exact absurd (h1 ▸ a1) b1
  · exact absurd (h1.trans b1) a1
  · rw [← h1] at b3; exact C3 a3 b3
def a2r (a b : Claim) : Int := orI [sgn a.Benefit b.Benefit, sgn a.Ref b.Ref]
theorem vr (a b : Claim) : a2r a b < 0 ↔ a.Benefit < b.Benefit ∨ a.Benefit = b.Benefit ∧ a.Ref < b.Ref := by
  unfold a2r
  simp only [Xp, a0m, W7]
  simp [orI]
theorem Qv (S : Claim → Prop) : Ordered a2r S := by
  constructor
  · intro x y _ _; rw [vr, vr]; omega
  · intro x y z _ _ _; rw [vr, vr, vr]; omega
theorem Ld (a b : Claim) : ga a b = some (a2r a b) := by
  unfold ga
  simp only [K4, Option.bind_some]
  rw [af3 _ (by simp)]; rfl
theorem a0u (l : List Claim) (hl : l.length ≤ 19) : ∃ r, bh l = some r ∧ r.Perm l ∧ r.Pairwise (Le a2r) := by
  obtain ⟨r, h1, h2, h3⟩ := Gb (c := a2r) (S := fun _ => True) (cmp := ga) (Qv _) (fun x y _ _ => Ld x y) l (fun _ _ => trivial) (by omega)
  refine ⟨r, ?_, h2, h3⟩
  have hrl : r.length = l.length := h2.length_eq
  rw [← Pa] at h1
  unfold bh cc
  have key : ∀ k, 0 < k → am k (be (l.length : Int)) (l, 0, 20) = some r := by
    intro k hk
    cases k with
    | zero => exact absurd hk (Nat.lt_irrefl 0)
    | succ k =>
      show be _ _ _ = _
      unfold be
      dsimp only
      rw [if_neg (by simp; omega), h1, Option.bind_some]
      have key2 : ∀ k, 0 < k → am k (bd (l.length : Int)) (r, 20) = some r := by
        intro k hk
        cases k with
        | zero => exact absurd hk (Nat.lt_irrefl 0)
        | succ k =>
          show bd _ _ _ = _
          unfold bd
          rw [if_neg (by simp; omega)]
      exact key2 FU (by unfold FU; omega)
  rw [key FU (by unfold FU; omega), Option.bind_some]
theorem a6d {v : List Bool} {i k : Nat} (hi : i < v.length) : (uc v (i : Int) true)[k]? = some true ↔ v[k]? = some true ∨ k = i := by
  unfold uc
  rw [if_pos (by omega), Int.toNat_natCast]
  by_cases h : k = i
  · subst h; simp [hi]
  · rw [List.getElem?_set_ne (by omega)]; simp [h]
theorem a3w {n : Nat} (v : Ar n Bool) {i k : Nat} (hi : i < n) : (Ar.set v (i : Int) true).l[k]? = some true ↔ v.l[k]? = some true ∨ k = i := a6d (by rw [v.h]; exact hi)
theorem T6 (q : List Claim) (hq : q.Pairwise (fun a b => Gz a b < 0)) (hl : q.length ≤ 12) (hok : ∀ c ∈ q, uf c) (p m : Int) :
    ∃ r, en q p m = some r ∧ r.Nodup ∧ (∀ c, c ∈ r ↔ Sel q p m c) ∧ r.Pairwise (Le a2r) := by
  have hnd : q.Nodup := hq.imp fun {a b} h e => by subst e; exact yg a h
  unfold en
  refine ko (fun s => ∃ x : Nat, s.2.2.2 = (x : Int) ∧ x ≤ q.length ∧ s.1.Sublist (q.take x) ∧ (∀ c, c ∈ s.1 ↔ Sel (q.take x) p m c) ∧
      (∀ k : Nat, s.2.2.1.l[k]? = some true ↔ ∃ d ∈ q.take x, d.Benefit = 4 ∧ d.Ref = (k : Int) ∧ st m d = true) ∧ (∀ k : Nat, s.2.1.l[k]? = some true ↔ ∃ d ∈ q.take x, d.Benefit ≠ 4 ∧ d.Person = p ∧ d.Benefit = (k : Int))) (fun s => q.length - s.2.2.2.toNat) _
    ⟨0, rfl, Nat.zero_le _, by simp, fun c => by simp; intro h; have := h.mem; simp at this, fun k => by simp only [arZ, List.getElem?_replicate]; simp, fun k => by simp only [arZ, List.getElem?_replicate]; simp⟩ (by show q.length - _ < _; omega) ?_
  rintro ⟨out, v2, v, x'⟩ rec ⟨x, hxx, hx, hsub, hsel, hc, hs⟩
  simp only at hxx hsub hsel hc hs
  subst hxx
  unfold vv
  dsimp only
  by_cases h : x < q.length
  · right
    have hg : av q (x : Int) = some q[x] := by rw [p7]; exact List.getElem?_eq_getElem h
    have hy := hok q[x] (List.getElem_mem h)
    have htk : q.take (x + 1) = q.take x ++ [q[x]] := List.take_succ_eq_append_getElem h
    have hlast : ∀ d ∈ q.take x, Gz d q[x] < 0 := by
      intro d hd
      obtain ⟨j, hj, hjd⟩ := List.mem_iff_getElem.1 hd
      rw [List.getElem_take] at hjd
      rw [List.length_take] at hj
      have := List.pairwise_iff_getElem.1 hq j x (by omega) h (by omega)
      rwa [hjd] at this
    generalize q[x] = y at *
    have hol : out.length ≤ 12 := by have := hsub.length_le; rw [List.length_take] at this; omega
    have e1 : i64 ((x : Int) + 1) = ((x + 1 : Nat) : Int) := by rw [au (by omega) (by omega)]; simp
    have hd0 : decide ((x : Int) < (q.length : Int)) = true := decide_eq_true (by omega)
    have hap : m8 48 out [y] = some (out ++ [y]) := de (by simp only [List.length_cons, List.length_nil]; omega)
    simp only [hd0, if_true, hg, Option.bind_some, afg hy, e1, hap]
    obtain ⟨⟨_, _, _, hben⟩, _⟩ := hy
    have hnext : ∀ (o' : List Claim) (w : Ar 100 Bool) (w2 : Ar 6 Bool), o'.Sublist (q.take (x + 1)) → (∀ c, c ∈ o' ↔ Sel (q.take (x + 1)) p m c) →
        (∀ k : Nat, w.l[k]? = some true ↔ ∃ d ∈ q.take (x + 1), d.Benefit = 4 ∧ d.Ref = (k : Int) ∧ st m d = true) → (∀ k : Nat, w2.l[k]? = some true ↔ ∃ d ∈ q.take (x + 1), d.Benefit ≠ 4 ∧ d.Person = p ∧ d.Benefit = (k : Int)) →
        ∃ s' : List Claim × Ar 6 Bool × Ar 100 Bool × Int, rec (o', w2, w, ((x + 1 : Nat) : Int)) = rec s' ∧ (∃ x : Nat, s'.2.2.2 = (x : Int) ∧ x ≤ q.length ∧ s'.1.Sublist (q.take x) ∧ (∀ c, c ∈ s'.1 ↔ Sel (q.take x) p m c) ∧
      (∀ k : Nat, s'.2.2.1.l[k]? = some true ↔ ∃ d ∈ q.take x, d.Benefit = 4 ∧ d.Ref = (k : Int) ∧ st m d = true) ∧ (∀ k : Nat, s'.2.1.l[k]? = some true ↔ ∃ d ∈ q.take x, d.Benefit ≠ 4 ∧ d.Person = p ∧ d.Benefit = (k : Int))) ∧ q.length - s'.2.2.2.toNat < q.length - (x : Int).toNat :=
      fun o' w w2 a b e f => ⟨_, rfl, ⟨x + 1, rfl, h, a, b, e, f⟩, by simp only [Int.toNat_natCast]; omega⟩
    have hsub0 : out.Sublist (q.take (x + 1)) := by rw [htk]; exact hsub.trans (List.sublist_append_left _ _)
    have hsub1 : (out ++ [y]).Sublist (q.take (x + 1)) := by rw [htk]; exact hsub.append (List.Sublist.refl _)
    have hSel : ∀ c, Sel (q.take (x + 1)) p m c ↔ Sel (q.take x) p m c ∨ c = y ∧ ((y.Benefit = 4 ∧ y.Person = p ∧ st m y = true ∧ ∀ d ∈ q.take x, ¬ (d.Benefit = 4 ∧ d.Ref = y.Ref ∧ st m d = true)) ∨ (y.Benefit ≠ 4 ∧ st m y = true ∧ y.Person = p ∧ ∀ d ∈ q.take x, ¬ (d.Benefit ≠ 4 ∧ d.Person = p ∧ d.Benefit = y.Benefit))) := by
      intro c
      unfold Sel
      rw [htk, Me hlast, Me hlast]
      constructor
      · rintro (⟨a1, a2, a3 | ⟨rfl, a4, a5⟩⟩ | ⟨a1, a2, a3 | ⟨rfl, a4, a5⟩⟩)
        · exact .inl (.inl ⟨a1, a2, a3⟩)
        · exact .inr ⟨rfl, .inl ⟨a1, a2, a4.2.2, a5⟩⟩
        · exact .inl (.inr ⟨a1, a2, a3⟩)
        · exact .inr ⟨rfl, .inr ⟨a1, a2, a4.2.1, a5⟩⟩
      · rintro ((⟨a1, a2, a3⟩ | ⟨a1, a2, a3⟩) | ⟨rfl, ⟨a1, a2, a3, a4⟩ | ⟨a1, a2, a3, a4⟩⟩)
        · exact .inl ⟨a1, a2, .inl a3⟩
        · exact .inr ⟨a1, a2, .inl a3⟩
        · exact .inl ⟨a1, a2, .inr ⟨rfl, ⟨a1, rfl, a3⟩, a4⟩⟩
        · exact .inr ⟨a1, a2, .inr ⟨rfl, ⟨a1, a3, rfl⟩, a4⟩⟩
    have hkeep : (¬ ((y.Benefit = 4 ∧ y.Person = p ∧ st m y = true ∧ ∀ d ∈ q.take x, ¬ (d.Benefit = 4 ∧ d.Ref = y.Ref ∧ st m d = true)) ∨ (y.Benefit ≠ 4 ∧ st m y = true ∧ y.Person = p ∧ ∀ d ∈ q.take x, ¬ (d.Benefit ≠ 4 ∧ d.Person = p ∧ d.Benefit = y.Benefit)))) → ∀ c, c ∈ out ↔ Sel (q.take (x + 1)) p m c := by
      intro hn c
      rw [hSel, hsel]
      exact ⟨.inl, fun hh => hh.elim id (fun h2 => absurd h2.2 hn)⟩
    have hadd : ((y.Benefit = 4 ∧ y.Person = p ∧ st m y = true ∧ ∀ d ∈ q.take x, ¬ (d.Benefit = 4 ∧ d.Ref = y.Ref ∧ st m d = true)) ∨ (y.Benefit ≠ 4 ∧ st m y = true ∧ y.Person = p ∧ ∀ d ∈ q.take x, ¬ (d.Benefit ≠ 4 ∧ d.Person = p ∧ d.Benefit = y.Benefit))) → ∀ c, c ∈ out ++ [y] ↔ Sel (q.take (x + 1)) p m c := by
      intro hn c
      rw [hSel, List.mem_append, hsel, List.mem_singleton]
      exact ⟨fun hh => hh.elim .inl (fun h2 => .inr ⟨h2, hn⟩), fun hh => hh.elim .inl (fun h2 => .inr h2.1)⟩
    have memx : ∀ (Q : Claim → Prop), (∃ d ∈ q.take (x + 1), Q d) ↔ (∃ d ∈ q.take x, Q d) ∨ Q y := by
      intro Q
      rw [htk]
      constructor
      · rintro ⟨d, hd, hQ⟩
        rcases List.mem_append.1 hd with hd | hd
        · exact .inl ⟨d, hd, hQ⟩
        · have : d = y := by simpa using hd
          subst this; exact .inr hQ
      · rintro (⟨d, hd, hQ⟩ | hQ)
        · exact ⟨d, by simp [hd], hQ⟩
        · exact ⟨y, by simp, hQ⟩
    by_cases hb : y.Benefit = 4
    · have hr : 1 ≤ y.Ref ∧ y.Ref ≤ 99 := by
        rcases hben with h1 | h1
        · exact ⟨h1.2.1, h1.2.2.1⟩
        · omega
      have eR : ((y.Ref.toNat : Nat) : Int) = y.Ref := by omega
      have hvg : ∃ b, av v.l y.Ref = some b ∧ v.l[y.Ref.toNat]? = some b := by
        obtain ⟨b, h1, h2⟩ := a4n (l := v.l) (i := y.Ref) (by omega) (by rw [v.h]; omega)
        exact ⟨b, h1, h2⟩
      obtain ⟨b, hb1, hb2⟩ := hvg
      have hsame2 : ∀ k : Nat, v2.l[k]? = some true ↔ ∃ d ∈ q.take (x + 1), d.Benefit ≠ 4 ∧ d.Person = p ∧ d.Benefit = (k : Int) := by
        intro k
        rw [hs, memx]
        exact ⟨.inl, fun hh => hh.elim id (fun h2 => absurd hb h2.1)⟩
      simp only [show (y.Benefit == 4) = true by simpa using hb, if_true, hb1, Option.bind_some]
      cases hst : st m y with
      | false =>
        simp only [Bool.false_eq_true, if_false, Option.bind_some]
        refine hnext _ _ _ hsub0 (hkeep ?_) (fun k => ?_) hsame2
        · rintro (⟨_, _, h3, _⟩ | ⟨h3, _⟩)
          · rw [hst] at h3; cases h3
          · exact h3 hb
        · rw [hc, memx]
          exact ⟨.inl, fun hh => hh.elim id (fun h2 => by rw [hst] at h2; cases h2.2.2)⟩
      | true =>
        simp only [if_true, Option.bind_some]
        cases b with
        | true =>
          simp only [Bool.not_true, Bool.false_eq_true, if_false]
          obtain ⟨d, hd, hd1, hd2, hd3⟩ := (hc _).1 hb2
          refine hnext _ _ _ hsub0 (hkeep ?_) (fun k => ?_) hsame2
          · rintro (⟨_, _, _, h3⟩ | ⟨h3, _⟩)
            · exact h3 d hd ⟨hd1, by rw [hd2, eR], hd3⟩
            · exact h3 hb
          · rw [hc, memx]
            refine ⟨.inl, fun hh => hh.elim id (fun h2 => ⟨d, hd, hd1, ?_, hd3⟩)⟩
            rw [hd2, eR]; exact h2.2.1
        | false =>
          simp only [Bool.not_false, if_true]
          have hno : ∀ d ∈ q.take x, ¬ (d.Benefit = 4 ∧ d.Ref = y.Ref ∧ st m d = true) := by
            rintro d hd ⟨d1, d2, d3⟩
            have := (hc y.Ref.toNat).2 ⟨d, hd, d1, by rw [d2, eR], d3⟩
            rw [hb2] at this; cases this
          have hv' : ∀ k : Nat, (Ar.set v y.Ref true).l[k]? = some true ↔ ∃ d ∈ q.take (x + 1), d.Benefit = 4 ∧ d.Ref = (k : Int) ∧ st m d = true := by
            intro k
            rw [← eR, a3w v (by omega), hc, memx]
            constructor
            · rintro (h2 | h2)
              · exact .inl h2
              · exact .inr ⟨hb, by omega, hst⟩
            · rintro (h2 | h2)
              · exact .inl h2
              · exact .inr (by have := h2.2.1; omega)
          by_cases hp : y.Person = p
          · rw [if_pos (by simpa using hp)]
            exact hnext _ _ _ hsub1 (hadd (.inl ⟨hb, hp, hst, hno⟩)) hv' hsame2
          · rw [if_neg (by simpa using hp)]
            refine hnext _ _ _ hsub0 (hkeep ?_) hv' hsame2
            rintro (⟨_, h3, _⟩ | ⟨h3, _⟩)
            · exact hp h3
            · exact h3 hb
    · have hbr : 1 ≤ y.Benefit ∧ y.Benefit ≤ 5 := by omega
      have eB : ((y.Benefit.toNat : Nat) : Int) = y.Benefit := by omega
      obtain ⟨b, hb1, hb2⟩ := a4n (l := v2.l) (i := y.Benefit) (by omega) (by rw [v2.h]; omega)
      have hsame1 : ∀ k : Nat, v.l[k]? = some true ↔ ∃ d ∈ q.take (x + 1), d.Benefit = 4 ∧ d.Ref = (k : Int) ∧ st m d = true := by
        intro k
        rw [hc, memx]
        exact ⟨.inl, fun hh => hh.elim id (fun h2 => absurd h2.1 hb)⟩
      simp only [show (y.Benefit == 4) = false by simpa using hb, Bool.false_eq_true, if_false, hb1, Option.bind_some]
      by_cases hp : y.Person = p
      · simp only [show (y.Person == p) = true by simpa using hp, if_true, Option.bind_some]
        cases b with
        | true =>
          simp only [Bool.not_true, Bool.false_eq_true, if_false]
          obtain ⟨d, hd, hd1, hd2, hd3⟩ := (hs _).1 hb2
          refine hnext _ _ _ hsub0 (hkeep ?_) hsame1 (fun k => ?_)
          · rintro (⟨h3, _⟩ | ⟨_, _, _, h3⟩)
            · exact hb h3
            · exact h3 d hd ⟨hd1, hd2, by rw [hd3, eB]⟩
          · rw [hs, memx]
            refine ⟨.inl, fun hh => hh.elim id (fun h2 => ⟨d, hd, hd1, hd2, ?_⟩)⟩
            rw [hd3, eB]; exact h2.2.2
        | false =>
          simp only [Bool.not_false, if_true]
          have hno : ∀ d ∈ q.take x, ¬ (d.Benefit ≠ 4 ∧ d.Person = p ∧ d.Benefit = y.Benefit) := by
            rintro d hd ⟨d1, d2, d3⟩
            have := (hs y.Benefit.toNat).2 ⟨d, hd, d1, d2, by rw [d3, eB]⟩
            rw [hb2] at this; cases this
          have hv' : ∀ k : Nat, (Ar.set v2 y.Benefit true).l[k]? = some true ↔ ∃ d ∈ q.take (x + 1), d.Benefit ≠ 4 ∧ d.Person = p ∧ d.Benefit = (k : Int) := by
            intro k
            rw [← eB, a3w v2 (by omega), hs, memx]
            constructor
            · rintro (h2 | h2)
              · exact .inl h2
              · exact .inr ⟨hb, hp, by omega⟩
            · rintro (h2 | h2)
              · exact .inl h2
              · exact .inr (by have := h2.2.2; omega)
          cases hst : st m y with
          | true =>
            simp only [if_true]
            exact hnext _ _ _ hsub1 (hadd (.inr ⟨hb, hst, hp, hno⟩)) hsame1 hv'
          | false =>
            simp only [Bool.false_eq_true, if_false]
            refine hnext _ _ _ hsub0 (hkeep ?_) hsame1 hv'
            rintro (⟨h3, _⟩ | ⟨_, h3, _⟩)
            · exact hb h3
            · rw [hst] at h3; cases h3
      · simp only [show (y.Person == p) = false by simpa using hp, Bool.false_eq_true, if_false, Option.bind_some]
        refine hnext _ _ _ hsub0 (hkeep ?_) hsame1 (fun k => ?_)
        · rintro (⟨h3, _⟩ | ⟨_, _, h3, _⟩)
          · exact hb h3
          · exact hp h3
        · rw [hs, memx]
          exact ⟨.inl, fun hh => hh.elim id (fun h2 => absurd h2.2.1 hp)⟩
  · left
    have : x = q.length := by omega
    subst this
    rw [List.take_length] at hsub hsel
    have hd0 : decide ((q.length : Int) < (q.length : Int)) = false := decide_eq_false (by omega)
    have hol := hsub.length_le
    obtain ⟨r, h1, h2, h3⟩ := a0u out (by omega)
    simp only [hd0, Bool.false_eq_true, if_false, h1, Option.bind_some]
    exact ⟨r, rfl, (h2.nodup_iff).2 (hsub.nodup hnd), fun c => by rw [h2.mem_iff, hsel], h3⟩
end Go.PL
namespace Go.PL
open Go Go.SX
theorem R8 (a b : Claim) : gu a b = some (decide (Gz a b < 0)) := by
  have step : ∀ (u v : Ar 6 Int) (k : Nat) (i : Nat) (p q : Int), u.l[i]? = some p → v.l[i]? = some q →
      am (k + 1) bl (u, v, (i : Int)) = if p = q then am k bl (u, v, ((i + 1 : Nat) : Int)) else some (decide (p < q)) := by
    intro u v k i p q hp hq
    show bl (am k bl) (u, v, (i : Int)) = _
    have hi : i < 6 := by have := (List.getElem?_eq_some_iff.1 hp).1; rwa [u.h] at this
    unfold bl
    dsimp only
    rw [if_pos (by simp; omega), p7, p7, hp, hq]
    simp only [Option.bind_some]
    by_cases h : p = q
    · rw [if_neg (by simpa using h), if_pos h, au (by omega) (by omega)]; rfl
    · rw [if_pos (by simpa using h), if_neg h]
  unfold gu
  have hFU : FU = (FU - 7) + 1 + 1 + 1 + 1 + 1 + 1 + 1 := by unfold FU; omega
  rw [hFU]
  generalize FU - 7 = k
  show am _ bl (_, _, ((0 : Nat) : Int)) = _
  rw [step _ _ _ 0 _ _ rfl rfl, step _ _ _ 1 _ _ rfl rfl, step _ _ _ 2 _ _ rfl rfl, step _ _ _ 3 _ _ rfl rfl, step _ _ _ 4 _ _ rfl rfl, step _ _ _ 5 _ _ rfl rfl]
  have hend : ∀ u v : Ar 6 Int, am (k + 1) bl (u, v, ((5 + 1 : Nat) : Int)) = some false := by
    intro u v
    show bl (am k bl) _ = _
    unfold bl
    rw [if_neg (by simp)]
  rw [hend]
  have hc := xp a b
  split
  · split
    · split
      · split
        · split
          · split
            · congr 1; symm; rw [decide_eq_false_iff_not, hc]; omega
            · congr 1; rw [decide_eq_decide, hc]; omega
          · congr 1; rw [decide_eq_decide, hc]; omega
        · congr 1; rw [decide_eq_decide, hc]; omega
      · congr 1; rw [decide_eq_decide, hc]; omega
    · congr 1; rw [decide_eq_decide, hc]; omega
  · congr 1; rw [decide_eq_decide, hc]; omega
theorem aa4 {m : Int} {c : Claim} (h : uf c) : ji c m = some (st m c) := by
  obtain ⟨s, h1, _⟩ := Nx (c := c) (by have := h.2; omega)
  obtain ⟨v, h2, h3⟩ := D9 c
  rw [F9 h] at h2
  cases h2
  obtain ⟨r, h4, h5, _⟩ := Dp c
  rw [h1] at h4; cases h4
  unfold ji st
  rw [h5, h3, h1]
  simp
theorem a3a {c : Claim} (h : uf c) : fy c = some true := by
  obtain ⟨v, h2, h3⟩ := D9 c
  rw [F9 h] at h2
  cases h2
  exact h3
def PLs (i b ref m : Int) (d : Claim) : Prop := d.Benefit = b ∧ (0 < i → d.Person = i) ∧ (0 < ref → d.Ref = ref) ∧ (b = 4 → st m d = true)
theorem Xj (l : List Claim) (hl : l.length ≤ 12) (hok : ∀ c ∈ l, uf c) (i b ref m : Int) :
    ∃ x, lh l i b ref m = some x ∧ ((x = -1 ∧ ∀ d ∈ l, ¬ PLs i b ref m d) ∨ ∃ c, 0 ≤ x ∧ av l x = some c ∧ Cf (PLs i b ref m) l c) := by
  unfold lh
  refine ko (fun s => ∃ n : Nat, s.2 = (n : Int) ∧ n ≤ l.length ∧ ((s.1 = -1 ∧ ∀ d ∈ l.take n, ¬ PLs i b ref m d) ∨ ∃ c, 0 ≤ s.1 ∧ av l s.1 = some c ∧ Cf (PLs i b ref m) (l.take n) c)) (fun s => l.length - s.2.toNat) _
    ⟨0, rfl, Nat.zero_le _, .inl ⟨rfl, by simp⟩⟩ (by show l.length - _ < _; omega) ?_
  rintro ⟨x, x2⟩ rec ⟨n, hx2, hn, hI⟩
  simp only at hx2 hI
  subst hx2
  unfold wl
  dsimp only
  by_cases h : n < l.length
  · right
    have hg : av l (n : Int) = some l[n] := by rw [p7]; exact List.getElem?_eq_getElem h
    have hy := hok l[n] (List.getElem_mem h)
    have htk : l.take (n + 1) = l.take n ++ [l[n]] := List.take_succ_eq_append_getElem h
    generalize l[n] = y at *
    have e1 : i64 ((n : Int) + 1) = ((n + 1 : Nat) : Int) := by rw [au (by omega) (by omega)]; simp
    have hd0 : decide ((n : Int) < (l.length : Int)) = true := decide_eq_true (by omega)
    simp only [hd0, if_true, hg, Option.bind_some, dl, bw, a3a hy, e1, aa4 hy]
    have next : ∀ x' : Int, ((x' = -1 ∧ ∀ d ∈ l.take (n + 1), ¬ PLs i b ref m d) ∨ ∃ c, 0 ≤ x' ∧ av l x' = some c ∧ Cf (PLs i b ref m) (l.take (n + 1)) c) →
        ∃ s' : Int × Int, rec (x', ((n + 1 : Nat) : Int)) = rec s' ∧ (∃ n : Nat, s'.2 = (n : Int) ∧ n ≤ l.length ∧ ((s'.1 = -1 ∧ ∀ d ∈ l.take n, ¬ PLs i b ref m d) ∨ ∃ c, 0 ≤ s'.1 ∧ av l s'.1 = some c ∧ Cf (PLs i b ref m) (l.take n) c)) ∧ l.length - s'.2.toNat < l.length - (n : Int).toNat :=
      fun x' h' => ⟨_, rfl, ⟨n + 1, rfl, h, h'⟩, by simp only [Int.toNat_natCast]; omega⟩
    have hskip : ¬ PLs i b ref m y → ((x = -1 ∧ ∀ d ∈ l.take (n + 1), ¬ PLs i b ref m d) ∨ ∃ c, 0 ≤ x ∧ av l x = some c ∧ Cf (PLs i b ref m) (l.take (n + 1)) c) := by
      intro hny
      rw [htk]
      rcases hI with ⟨h1, h2⟩ | ⟨c, h1, h2, h3, h4, h5⟩
      · refine .inl ⟨h1, fun d hd => ?_⟩
        rcases List.mem_append.1 hd with hd | hd
        · exact h2 d hd
        · rw [List.mem_singleton.1 hd]; exact hny
      · refine .inr ⟨c, h1, h2, by simp [h3], h4, fun d hd hP => ?_⟩
        rcases List.mem_append.1 hd with hd | hd
        · exact h5 d hd hP
        · rw [List.mem_singleton.1 hd] at hP; exact absurd hP hny
    have hmain : PLs i b ref m y → ∃ s' : Int × Int, (Option.bind (if decide (x < 0) = true then some true else Option.bind (av l x) fun y2 => Option.bind (gu y y2) fun z3 => some z3) fun c2 => if c2 = true then rec ((n : Int), ((n + 1 : Nat) : Int)) else rec (x, ((n + 1 : Nat) : Int))) = rec s' ∧ (∃ n : Nat, s'.2 = (n : Int) ∧ n ≤ l.length ∧ ((s'.1 = -1 ∧ ∀ d ∈ l.take n, ¬ PLs i b ref m d) ∨ ∃ c, 0 ≤ s'.1 ∧ av l s'.1 = some c ∧ Cf (PLs i b ref m) (l.take n) c)) ∧ l.length - s'.2.toNat < l.length - (n : Int).toNat := by
      intro hyP
      rcases hI with ⟨h1, h2⟩ | ⟨c, h1, h2, h3, h4, h5⟩
      · rw [if_pos (by simp; omega), Option.bind_some, if_pos rfl]
        refine next _ (.inr ⟨y, Int.natCast_nonneg _, hg, ?_⟩)
        rw [htk]
        refine ⟨by simp, hyP, fun d hd hP => ?_⟩
        rcases List.mem_append.1 hd with hd | hd
        · exact absurd hP (h2 d hd)
        · rw [List.mem_singleton.1 hd]; exact yg y
      · rw [if_neg (by simp; omega), h2, Option.bind_some, R8, Option.bind_some, Option.bind_some]
        by_cases hlt : Gz y c < 0
        · rw [if_pos (decide_eq_true hlt)]
          refine next _ (.inr ⟨y, Int.natCast_nonneg _, hg, ?_⟩)
          rw [htk]
          refine ⟨by simp, hyP, fun d hd hP => ?_⟩
          rcases List.mem_append.1 hd with hd | hd
          · exact fun h6 => h5 d hd hP (F8 h6 hlt)
          · rw [List.mem_singleton.1 hd]; exact yg y
        · rw [if_neg (by simpa using hlt)]
          refine next _ (.inr ⟨c, h1, h2, ?_⟩)
          rw [htk]
          refine ⟨by simp [h3], h4, fun d hd hP => ?_⟩
          rcases List.mem_append.1 hd with hd | hd
          · exact h5 d hd hP
          · rw [List.mem_singleton.1 hd]; exact hlt
    by_cases hQ : y.Benefit = b ∧ (0 < i → y.Person = i) ∧ (0 < ref → y.Ref = ref)
    · have hc : ((((!true) || (y.Benefit != b)) || (decide (i > 0) && (y.Person != i))) || (decide (ref > 0) && (y.Ref != ref))) = false := by
        obtain ⟨q1, q2, q3⟩ := hQ
        rw [Bool.eq_false_iff]
        simp only [Bool.not_true, Bool.false_or, Bool.or_eq_true, Bool.and_eq_true, bne_iff_ne, decide_eq_true_eq, ne_eq]
        omega
      simp only [hc, Bool.false_eq_true, if_false]
      by_cases hb : b = 4
      · simp only [show (b == 4) = true by simpa using hb, if_true, Option.bind_some]
        cases hst : st m y with
        | true =>
          simp only [Bool.not_true, Bool.false_eq_true, if_false]
          exact hmain ⟨hQ.1, hQ.2.1, hQ.2.2, fun _ => hst⟩
        | false =>
          simp only [Bool.not_false, if_true]
          refine next _ (hskip fun hP => ?_)
          have := hP.2.2.2 hb
          rw [hst] at this; cases this
      · simp only [show (b == 4) = false by simpa using hb, Bool.false_eq_true, if_false, Option.bind_some]
        exact hmain ⟨hQ.1, hQ.2.1, hQ.2.2, fun h6 => absurd h6 hb⟩
    · have hc : ((((!true) || (y.Benefit != b)) || (decide (i > 0) && (y.Person != i))) || (decide (ref > 0) && (y.Ref != ref))) = true := by
        simp only [Bool.not_true, Bool.false_or, Bool.or_eq_true, Bool.and_eq_true, bne_iff_ne, decide_eq_true_eq, ne_eq]
        omega
      simp only [hc, if_true]
      exact next _ (hskip fun hP => hQ ⟨hP.1, hP.2.1, hP.2.2.1⟩)
  · left
    have : n = l.length := by omega
    subst this
    have hd0 : decide ((l.length : Int) < (l.length : Int)) = false := decide_eq_false (by omega)
    simp only [hd0, Bool.false_eq_true, if_false]
    rw [List.take_length] at hI
    exact ⟨x, rfl, hI⟩
def Gat (l : List Claim) (p m : Int) (K : Claim → Prop) (n : Nat) (out : List Claim) : Prop :=
  (∀ c, c ∈ out ↔ Sel l p m c ∧ K c) ∧ out.Pairwise (fun a b => a2r a b < 0) ∧ out.length ≤ n
theorem P5 {l : List Claim} {p m : Int} {K K2 : Claim → Prop} {n : Nat} {out : List Claim} (h : Gat l p m K n out) (h2 : ∀ c, Sel l p m c → (K2 c ↔ K c)) : Gat l p m K2 (n + 1) out := by
  obtain ⟨h3, h4, h5⟩ := h
  refine ⟨fun c => ?_, h4, by omega⟩
  rw [h3]
  exact ⟨fun ⟨a, b⟩ => ⟨a, (h2 c a).2 b⟩, fun ⟨a, b⟩ => ⟨a, (h2 c a).1 b⟩⟩
theorem a1u {l : List Claim} {p m : Int} {K K2 : Claim → Prop} {n : Nat} {out : List Claim} {y : Claim} (h : Gat l p m K n out) (hy : Sel l p m y) (hK : ∀ c, K c → a2r c y < 0) (h2 : ∀ c, Sel l p m c → (K2 c ↔ K c ∨ c = y)) : Gat l p m K2 (n + 1) (out ++ [y]) := by
  obtain ⟨h3, h4, h5⟩ := h
  refine ⟨fun c => ?_, ?_, by simp only [List.length_append, List.length_cons, List.length_nil]; omega⟩
  · rw [List.mem_append, h3, List.mem_singleton]
    constructor
    · rintro (⟨a, b⟩ | rfl)
      · exact ⟨a, (h2 c a).2 (.inl b)⟩
      · exact ⟨hy, (h2 c hy).2 (.inr rfl)⟩
    · rintro ⟨a, b⟩
      rcases (h2 c a).1 b with b | b
      · exact .inl ⟨a, b⟩
      · exact .inr b
  · rw [List.pairwise_append]
    refine ⟨h4, List.pairwise_singleton _ _, fun a ha b hb => ?_⟩
    rw [List.mem_singleton.1 hb]
    exact hK a ((h3 a).1 ha).2
theorem ahs {r m : Int} (hr : 0 < r) : PLs 0 4 r m = fun d => d.Benefit = 4 ∧ d.Ref = r ∧ st m d = true := by
  funext d
  apply propext
  unfold PLs
  exact ⟨fun h => ⟨h.1, h.2.2.1 hr, h.2.2.2 rfl⟩, fun h => ⟨h.1, fun h0 => absurd h0 (by omega), fun _ => h.2.1, fun _ => h.2.2⟩⟩
theorem ai7 {p b m : Int} (hp : 0 < p) (hb : b ≠ 4) : PLs p b 0 m = fun d => d.Benefit ≠ 4 ∧ d.Person = p ∧ d.Benefit = b := by
  funext d
  apply propext
  unfold PLs
  exact ⟨fun h => ⟨by rw [h.1]; exact hb, h.2.1 hp, h.1⟩, fun h => ⟨h.2.2, fun _ => h.2.1, fun h0 => absurd h0 (by omega), fun h0 => absurd h0 hb⟩⟩
theorem a8f (l : List Claim) (hl : l.length ≤ 12) (hok : ∀ c ∈ l, uf c) (p m : Int) (hp : 0 < p) (rec : List Claim × Int → Option (List Claim)) (v0 : List Claim × Int) (hv0 : v0.2 = 4) (out : List Claim) (n : Nat) (hn : n ≤ 1000) (h : Gat l p m (fun c => c.Benefit < 4) n out) :
    ∃ o, am FU (ky l v0 m p rec) (out, 1) = rec (o, 5) ∧ Gat l p m (fun c => c.Benefit < 5) (n + 100) o := by
  refine xx (f := ky l v0 m p rec) (fun s => ∃ r : Nat, s.2 = (r : Int) ∧ 1 ≤ r ∧ r ≤ 100 ∧ Gat l p m (fun c => c.Benefit < 4 ∨ c.Benefit = 4 ∧ c.Ref < (r : Int)) (n + r) s.1) (fun s => 100 - s.2.toNat) (fun v => ∃ o, v = rec (o, 5) ∧ Gat l p m (fun c => c.Benefit < 5) (n + 100) o)
    ⟨1, rfl, by omega, by omega, P5 h fun c hc => ?_⟩ (by show 100 - _ < _; omega) ?_
  · have := (hok c hc.mem).1.2.2.2
    (try simp only [])
    omega
  rintro ⟨out, r'⟩ rec2 ⟨r, hr', hr1, hr, hG⟩
  simp only at hr' hG
  subst hr'
  unfold ky
  rw [hv0]
  dsimp only
  by_cases h99 : r ≤ 99
  · right
    have hd0 : decide ((r : Int) ≤ 99) = true := decide_eq_true (by omega)
    have e1 : i64 ((r : Int) + 1) = ((r + 1 : Nat) : Int) := by rw [au (by omega) (by omega)]; simp
    obtain ⟨x, hx, hcase⟩ := Xj l hl hok 0 4 (r : Int) m
    rw [ahs (by omega)] at hcase
    simp only [hd0, if_true, hx, Option.bind_some, e1]
    have next : ∀ o : List Claim, Gat l p m (fun c => c.Benefit < 4 ∨ c.Benefit = 4 ∧ c.Ref < ((r + 1 : Nat) : Int)) (n + (r + 1)) o →
        ∃ s' : List Claim × Int, rec2 (o, ((r + 1 : Nat) : Int)) = rec2 s' ∧ (∃ r : Nat, s'.2 = (r : Int) ∧ 1 ≤ r ∧ r ≤ 100 ∧ Gat l p m (fun c => c.Benefit < 4 ∨ c.Benefit = 4 ∧ c.Ref < (r : Int)) (n + r) s'.1) ∧ 100 - s'.2.toNat < 100 - (r : Int).toNat :=
      fun o ho => ⟨_, rfl, ⟨r + 1, rfl, by omega, by omega, ho⟩, by simp only [Int.toNat_natCast]; omega⟩
    have hkeep : (∀ c, Sel l p m c → ¬ (c.Benefit = 4 ∧ c.Ref = (r : Int))) → Gat l p m (fun c => c.Benefit < 4 ∨ c.Benefit = 4 ∧ c.Ref < ((r + 1 : Nat) : Int)) (n + (r + 1)) out := by
      intro hno
      refine P5 hG fun c hc => ?_
      have := hno c hc
      (try simp only [])
      omega
    rcases hcase with ⟨h1, h2⟩ | ⟨c, h1, h2, h3⟩
    · have hd1 : decide (x ≥ 0) = false := decide_eq_false (by omega)
      simp only [hd1, Bool.false_eq_true, if_false, Option.bind_some]
      refine next _ (hkeep fun c hc => ?_)
      rintro ⟨c1, c2⟩
      rcases hc with ⟨_, _, hm⟩ | ⟨hc, _⟩
      · have hm2 := hm.2.1
        (try simp only [] at hm2)
        exact h2 c hm.1 ⟨c1, c2, hm2.2.2⟩
      · exact hc c1
    · have hd1 : decide (x ≥ 0) = true := decide_eq_true h1
      simp only [hd1, if_true, h2, Option.bind_some]
      have hc4 := h3.2.1
      (try simp only [] at hc4)
      by_cases hpp : c.Person = p
      · rw [if_pos (by simpa using hpp), de (by have := hG.2.2; simp only [List.length_cons, List.length_nil]; omega), Option.bind_some]
        have hS : Sel l p m c := .inl ⟨hc4.1, hpp, by rw [hc4.2.1]; exact h3⟩
        refine next _ (a1u hG hS (fun d hd => ?_) fun d hd => ?_)
        · rw [vr]; (try simp only [] at hd); omega
        · (try simp only [])
          constructor
          · intro h4
            by_cases h5 : d.Benefit = 4 ∧ d.Ref = (r : Int)
            · exact .inr (Tp hd hS (by omega) (by omega))
            · exact .inl (by omega)
          · rintro (h4 | rfl) <;> omega
      · rw [if_neg (by simpa using hpp)]
        refine next _ (hkeep fun d hd => ?_)
        rintro ⟨d1, d2⟩
        rcases hd with ⟨_, d3, hm⟩ | ⟨hd, _⟩
        · rw [d2] at hm
          have := C3 hm h3
          rw [this] at d3
          exact hpp d3
        · exact hd d1
  · left
    have hd0 : decide ((r : Int) ≤ 99) = false := decide_eq_false (by omega)
    simp only [hd0, Bool.false_eq_true, if_false]
    rw [au (n := 4 + 1) (by omega) (by omega)]
    have e : r = 100 := by omega
    subst e
    refine ⟨out, rfl, ?_⟩
    obtain ⟨g1, g2, g3⟩ := hG
    refine ⟨fun c => ?_, g2, g3⟩
    rw [g1]
    (try simp only [])
    constructor
    · rintro ⟨a, b⟩; exact ⟨a, by omega⟩
    · rintro ⟨a, b⟩
      have := (hok c a.mem).1.2.2.2
      exact ⟨a, by omega⟩
theorem Jn (l : List Claim) (hl : l.length ≤ 12) (hok : ∀ c ∈ l, uf c) (p m : Int) (hp : 0 < p) :
    ∃ o, am FU (gp l m p) ([], 1) = some o ∧ Gat l p m (fun c => c.Benefit < 6) 600 o := by
  refine ko (fun s => ∃ b : Nat, s.2 = (b : Int) ∧ 1 ≤ b ∧ b ≤ 6 ∧ Gat l p m (fun c => c.Benefit < (b : Int)) (100 * b) s.1) (fun s => 6 - s.2.toNat) _
    ⟨1, rfl, by omega, by omega, ⟨fun c => ?_, List.Pairwise.nil, by simp⟩⟩ (by show 6 - _ < _; omega) ?_
  · simp only [List.not_mem_nil, false_iff]
    rintro ⟨hc, h1⟩
    have := (hok c hc.mem).1.2.2.2
    omega
  rintro ⟨out, b'⟩ rec ⟨b, hb', hb1, hb6, hG⟩
  simp only at hb' hG
  subst hb'
  by_cases h5 : b ≤ 5
  · right
    have hd0 : decide ((b : Int) ≤ 5) = true := decide_eq_true (by omega)
    have e1 : i64 ((b : Int) + 1) = ((b + 1 : Nat) : Int) := by rw [au (by omega) (by omega)]; simp
    have next : ∀ o : List Claim, Gat l p m (fun c => c.Benefit < ((b + 1 : Nat) : Int)) (100 * (b + 1)) o →
        ∃ s' : List Claim × Int, rec (o, ((b + 1 : Nat) : Int)) = rec s' ∧ (∃ b : Nat, s'.2 = (b : Int) ∧ 1 ≤ b ∧ b ≤ 6 ∧ Gat l p m (fun c => c.Benefit < (b : Int)) (100 * b) s'.1) ∧ 6 - s'.2.toNat < 6 - (b : Int).toNat :=
      fun o ho => ⟨_, rfl, ⟨b + 1, rfl, by omega, by omega, ho⟩, by simp only [Int.toNat_natCast]; omega⟩
    by_cases h4 : b = 4
    · subst h4
      obtain ⟨o, ho1, ho2⟩ := a8f l hl hok p m hp rec (out, 4) rfl out (100 * 4) (by omega) hG
      obtain ⟨s', a1, a2, a3⟩ := next o ho2
      refine ⟨s', ?_, a2, a3⟩
      rw [← a1]
      unfold gp
      dsimp only
      rw [if_pos hd0, if_pos (by simp)]
      exact ho1
    · unfold gp
      generalize am FU = LP
      dsimp only
      have hb4 : ((b : Int) == 4) = false := by simp; omega
      obtain ⟨x, hx, hcase⟩ := Xj l hl hok p (b : Int) 0 m
      rw [ai7 hp (by omega)] at hcase
      simp only [hd0, if_true, hb4, Bool.false_eq_true, if_false, hx, Option.bind_some, e1]
      have hkeep : (∀ c, Sel l p m c → ¬ c.Benefit = (b : Int)) → Gat l p m (fun c => c.Benefit < ((b + 1 : Nat) : Int)) (100 * (b + 1)) out := by
        intro hno
        obtain ⟨g1, g2, g3⟩ := P5 (K2 := fun c => c.Benefit < ((b + 1 : Nat) : Int)) hG fun c hc => by
          have := hno c hc
          (try simp only [])
          omega
        exact ⟨g1, g2, by omega⟩
      rcases hcase with ⟨h1, h2⟩ | ⟨c, h1, h2, h3⟩
      · have hd1 : decide (x ≥ 0) = false := decide_eq_false (by omega)
        simp only [hd1, Bool.false_eq_true, if_false, Option.bind_some]
        refine next _ (hkeep fun c hc hcb => ?_)
        rcases hc with ⟨hc, _⟩ | ⟨hc, _, hm⟩
        · omega
        · have hm2 := hm.2.1
          (try simp only [] at hm2)
          exact h2 c hm.1 ⟨hc, hm2.2.1, hcb⟩
      · have hd1 : decide (x ≥ 0) = true := decide_eq_true h1
        simp only [hd1, if_true, h2, Option.bind_some, aa4 (hok c h3.1)]
        have hc4 := h3.2.1
        (try simp only [] at hc4)
        cases hst : st m c with
        | true =>
          simp only [if_true]
          rw [de (by have := hG.2.2; simp only [List.length_cons, List.length_nil]; omega), Option.bind_some]
          have hS : Sel l p m c := .inr ⟨hc4.1, hst, by rw [hc4.2.2]; exact h3⟩
          obtain ⟨g1, g2, g3⟩ := a1u (K2 := fun c => c.Benefit < ((b + 1 : Nat) : Int)) hG hS (fun d hd => by rw [vr]; (try simp only [] at hd); omega) (fun d hd => by
            (try simp only [])
            constructor
            · intro h4
              by_cases h5 : d.Benefit = (b : Int)
              · exact .inr (Tp hd hS (by omega) (by omega))
              · exact .inl (by omega)
            · rintro (h4 | rfl) <;> omega)
          exact next _ ⟨g1, g2, by omega⟩
        | false =>
          simp only [Bool.false_eq_true, if_false]
          refine next _ (hkeep fun d hd hdb => ?_)
          rcases hd with ⟨hd, _⟩ | ⟨hd, d3, hm⟩
          · omega
          · rw [hdb] at hm
            have := C3 hm h3
            rw [this, hst] at d3
            cases d3
  · left
    have hd0 : decide ((b : Int) ≤ 5) = false := decide_eq_false (by omega)
    unfold gp
    generalize am FU = LP
    dsimp only
    simp only [hd0, Bool.false_eq_true, if_false]
    have e : b = 6 := by omega
    subst e
    exact ⟨out, rfl, hG⟩
theorem Rl (l : List Claim) (hl : l.length ≤ 12) (hok : ∀ c ∈ l, uf c) (p m : Int) (hp : 0 < p) (hm : 0 ≤ m ∧ m ≤ 2399) :
    ∃ q r, jz l = some q ∧ en q p m = some r ∧ kj l p m = some r ∧ r.length ≤ 600 := by
  unfold kj da
  simp only [Option.bind_some, bw, dl]
  obtain ⟨q, hq, hqs, hqm, hq12⟩ := a0f l hl hok
  obtain ⟨r, hr, hrn, hrm, hrs⟩ := T6 q hqs hq12 (fun c hc => hok c ((hqm c).1 hc)) p m
  have hrm2 : ∀ c, c ∈ r ↔ Sel l p m c := fun c => by rw [hrm, a2b hqm]
  rw [if_neg (by simp; omega)]
  obtain ⟨o, ho, g1, g2, g3⟩ := Jn l hl hok p m hp
  have hmem : ∀ c, c ∈ r ↔ c ∈ o := by
    intro c
    rw [hrm2, g1]
    refine ⟨fun h => ⟨h, ?_⟩, fun h => h.1⟩
    have := (hok c h.mem).1.2.2.2
    (try simp only [])
    omega
  have hon : o.Nodup := g2.imp fun {a b} h e => by subst e; rw [vr] at h; omega
  have hos : o.Pairwise (Le a2r) := g2.imp fun {a b} h => by
    unfold Le
    rw [vr] at h ⊢
    omega
  have hperm : r.Perm o := (List.perm_ext_iff_of_nodup hrn hon).2 hmem
  have heq : r = o := List.Perm.eq_of_pairwise (le := Le a2r) (fun a b ha hb h1 h2 => by
    unfold Le at h1 h2
    rw [vr] at h1 h2
    exact Tp ((hrm2 a).1 ha) ((hrm2 b).1 ((hmem b).2 hb)) (by omega) (by omega)) hrs hos hperm
  exact ⟨q, r, hq, hr, by rw [ho, heq], by rw [heq]; exact g3⟩
end Go.PL
namespace Go.PL
open Go Go.SX
theorem a9m (l : List api_Fact) (p : Int) : (ofP (wb l) p).filter cur = ofP (fs l) p := a3q _ _
theorem aee (l : List api_Fact) (p : Int) : (ofP (fs l) p).filter cur = ofP (fs l) p := by
  rw [a3q]
  unfold fs
  rw [List.filter_filter]
  simp only [Bool.and_self]
theorem a3m (l : List api_Fact) (p d : Int) : ii (ofP (wb l) p) d = ii (ofP (fs l) p) d := by
  unfold ii Fe
  rw [a9m, aee]
def agd (l : List api_Fact) (r : List Claim) (p b d : Int) : Bool :=
  ii (ofP (fs l) p) d && (if b == 4 then r.any (fun c => (c.Benefit == b) && (a5g (fs l) c.Ref d).any fun y => p == y) else
    match r.find? (fun c => c.Benefit == b) with
    | none => false
    | some c => if b == 2 then (ofP (fs l) p).any (diB d) else if b == 3 then (hrs (fs l) c.Ref d).any (fun y => y.Person == p) else true)
theorem Ru {α σ : Type} {f : (σ → Option Bool) → σ → Option Bool} (l : List α) (e : Int → σ) (p g : α → Bool) (hl : l.length ≤ 2 ^ 30)
    (hstep : ∀ (rec : σ → Option Bool) (i : Nat) (y : α), i < l.length → l[i]? = some y → f rec (e (i : Int)) = if p y = true then some (g y) else rec (e (i64 ((i : Int) + 1))))
    (hfin : ∀ rec : σ → Option Bool, f rec (e (l.length : Int)) = some false) : am FU f (e 0) = some (match l.find? p with | none => false | some c => g c) := by
  refine gr (f := f) l (fun (_ : Unit) i => e i) (fun _ i => ∀ y ∈ l.take i, p y = false) (fun o => o = some (match l.find? p with | none => false | some c => g c)) (by omega) ?_ ?_ () (by simp)
  · rintro rec s i y hi hy h
    rw [hstep _ _ _ hi hy, gl (by omega)]
    by_cases hc : p y = true
    · left
      rw [if_pos hc]
      have : l.find? p = some y := by
        rw [List.find?_eq_some_iff_append]
        refine ⟨hc, l.take i, l.drop (i + 1), ?_, fun a ha => by simp [h a ha]⟩
        rw [← zo hy, List.take_append_drop]
      rw [this]
    · right
      rw [if_neg hc]
      refine ⟨(), rfl, fun z hz => ?_⟩
      rw [j3 hy] at hz
      rcases List.mem_append.1 hz with hz | hz
      · exact h z hz
      · rw [List.mem_singleton] at hz; subst hz; simpa using hc
  · intro rec s h
    rw [List.take_length] at h
    rw [hfin]
    have : l.find? p = none := by rw [List.find?_eq_none]; intro y hy; simp [h y hy]
    rw [this]
theorem a6x {α : Type} (l : List α) (p : α → Bool) : (match l.find? p with | none => false | some _ => true) = l.any p := by
  cases h : l.find? p with
  | none =>
    symm
    rw [List.any_eq_false]
    exact List.find?_eq_none.1 h
  | some c => exact (List.any_eq_true.2 ⟨c, List.mem_of_find?_eq_some h, List.find?_some h⟩).symm
theorem Un (g : decision_file) (r : List Claim) (b m : Int) (hr : en g.claims g.person m = some r) (hl : r.length ≤ 1000) : ku g b m = some (r.filter fun c => c.Benefit == b) := by
  unfold ku
  rw [hr, Option.bind_some]
  refine gr (f := ir r b) r (fun s i => (s, r, i)) (fun s i => s = (r.take i).filter fun c => c.Benefit == b) (fun o => o = some (r.filter fun c => c.Benefit == b)) (by omega) ?_ ?_ [] (by simp)
  · rintro rec s i y hi hy rfl
    right
    unfold ir
    dsimp only
    rw [if_pos (ox hi)]
    simp only [d6 hy, Option.bind_some]
    rw [j3 hy, List.filter_append, gl (by omega)]
    have hlen : ((r.take i).filter fun c => c.Benefit == b).length ≤ 1000 := by
      have := List.length_filter_le (fun c : Claim => c.Benefit == b) (r.take i); rw [List.length_take] at this; omega
    by_cases hc : (y.Benefit == b) = true
    · rw [if_pos hc, de (by simp only [List.length_cons, List.length_nil]; omega), Option.bind_some]
      exact ⟨_, rfl, by simp [hc]⟩
    · rw [if_neg hc]
      rw [Bool.not_eq_true] at hc
      exact ⟨_, rfl, by simp [hc]⟩
  · rintro rec s rfl
    unfold ir
    dsimp only
    rw [if_neg (jt _), List.take_length]
theorem a2n {l : List api_Fact} (hl : l.length ≤ 2 ^ 20) (x : Laws) (own : List api_Fact) (q : List Claim) (p c d : Int) :
    md ⟨x, wb l, own, q, p⟩ c d = some ((a5g (fs l) c d).any fun y => p == y) := by
  unfold md
  rw [V9 hl, Option.bind_some, Td _ _ (by have := a07 (fs l) c d; omega)]; rfl
theorem acy {l : List api_Fact} (hl : l.length ≤ 2 ^ 20) {cl q r : List Claim} {p b m d : Int} (hq : jz cl = some q) (hr : en q p m = some r) (hrl : r.length ≤ 1000) (hd : dy m = some (d, true)) :
    di l cl p b m = some (agd l r p b d) := by
  have hm := Bv hl
  have hown := yb (wb l) p
  unfold di B5
  rw [hd, Option.bind_some, if_pos rfl, Ey l hl, Option.bind_some, Ly _ p (by omega), Option.bind_some, hq]
  rw [Option.bind_some, Option.bind_some]
  show (km (⟨⟨[], [], []⟩, wb l, ofP (wb l) p, q, p⟩ : decision_file) b m d).bind some = _
  have bsr : ∀ o : Option Bool, o.bind some = o := fun o => by cases o <;> rfl
  rw [bsr]
  have hal0 : np (⟨⟨[], [], []⟩, wb l, ofP (wb l) p, q, p⟩ : decision_file) d = some (ii (ofP (fs l) p) d) := by
    unfold np
    rw [Dx _ (by show (ofP (wb l) p).length ≤ _; omega), Option.bind_some, dl, Option.bind_some, ← a3m]; rfl
  unfold km
  rw [Un (⟨⟨[], [], []⟩, wb l, ofP (wb l) p, q, p⟩ : decision_file) r b m hr hrl, Option.bind_some, hal0, Option.bind_some, dl, Option.bind_some]
  have hlen : (r.filter fun c => c.Benefit == b).length ≤ 1000 := by
    have := List.length_filter_le (fun c : Claim => c.Benefit == b) r; omega
  unfold agd
  have hhd : (r.filter fun c => c.Benefit == b).head? = r.find? (fun c => c.Benefit == b) := List.head?_filter ..
  have hany : ∀ g : Claim → Bool, r.any (fun c => (c.Benefit == b) && g c) = (r.filter fun c => c.Benefit == b).any g := fun g => by rw [List.any_filter]
  rw [← hhd]
  simp only [hany]
  generalize (r.filter fun c => c.Benefit == b) = s at hlen
  cases hal : ii (ofP (fs l) p) d
  · rw [if_pos (by simp)]; rfl
  · rw [Bool.not_true, Bool.or_false, Bool.true_and]
    cases s with
    | nil => simp
    | cons c s =>
      rw [if_neg (by simp; omega)]
      by_cases b2 : b = 2
      · subst b2
        rw [if_pos (by decide), Qy _ _ (by show (ofP (wb l) p).length ≤ _; omega), Option.bind_some]
        show some (((ofP (wb l) p).filter cur).any (diB d)) = _
        rw [a9m]; rfl
      · rw [if_neg (by simpa using b2)]
        by_cases b3 : b = 3
        · subst b3
          have h0 : av (c :: s) 0 = some c := rfl
          rw [if_pos (by decide), h0, Option.bind_some, Option.bind_some]
          show (jn (wb l) c.Ref d).bind _ = _
          rw [a8q hl, Option.bind_some]
          obtain ⟨n, e1, e2⟩ := a61 (⟨⟨[], [], []⟩, wb l, ofP (wb l) p, q, p⟩ : decision_file) (hrs (fs l) c.Ref d) (by have := a94 (fs l) c.Ref d; omega)
          rw [e1, Option.bind_some, e2]; rfl
        · rw [if_neg (by simpa using b3)]
          by_cases b4 : b = 4
          · subst b4
            rw [if_pos (by decide)]
            unfold c5 c9
            obtain ⟨n, e1, e2⟩ := uo (f := bf (c :: s) (⟨⟨[], [], []⟩, wb l, ofP (wb l) p, q, p⟩ : decision_file) d) (c :: s) (fun c => (a5g (fs l) c.Ref d).any fun y => p == y) (by omega) (fun rec i y hy => by
              have hi := (List.getElem?_eq_some_iff.1 hy).1
              unfold bf n7
              rw [if_pos (ox hi)]
              simp only [d6 hy, Option.bind_some, a2n hl]) fun rec => by
              unfold bf
              rw [if_neg (jt _)]
            rw [e1]
            simp only [Option.bind_some, e2]; rfl
          · rw [if_neg (by simpa using b4)]
            have e2 : (b == 2) = false := by simpa using b2
            have e3 : (b == 3) = false := by simpa using b3
            have e4 : (b == 4) = false := by simpa using b4
            simp [e2, e3, e4]
theorem abn {l : List api_Fact} (hl : l.length ≤ 2 ^ 20) {cl r : List Claim} {p b m d : Int} (hr : kj cl p m = some r) (hrl : r.length ≤ 1000) (hd : eq m = some (d, true)) :
    iw l cl p b m = some (agd l r p b d) := by
  have hF := a2d hl
  unfold iw
  rw [hd, Option.bind_some]
  dsimp only
  rw [if_neg (by simp), Fw hl, Option.bind_some, A4 _ _ _ (by omega), Option.bind_some]
  unfold agd
  cases hal : ii (ofP (fs l) p) d
  · rw [if_pos (by simp)]; rfl
  · rw [if_neg (by simp), hr, Option.bind_some, Bool.true_and]
    by_cases b4 : b = 4
    · subst b4
      rw [Ru (f := db 4 l p (d, true)) r (fun i => (r, i)) (fun c => (c.Benefit == 4) && (a5g (fs l) c.Ref d).any fun y => p == y) (fun _ => true) (by omega) (fun rec i y hi hy => ?_) fun rec => ?_]
      · rw [a6x]; rfl
      · unfold db
        dsimp only
        rw [if_pos (ox hi)]
        simp only [d6 hy, Option.bind_some, Uv hl]
        rw [aej _ _ (by have := a07 (fs l) y.Ref d; omega), Option.bind_some]
        cases hb : (y.Benefit == 4)
        · rw [if_pos (by simp [bne, hb])]; simp
        · rw [if_neg (by simp [bne, hb]), if_neg (by decide), if_neg (by decide), if_pos (by decide), Bool.true_and]
      · unfold db
        dsimp only
        rw [if_neg (jt _)]
    · have e4 : (b == 4) = false := by simpa using b4
      rw [Ru (f := db b l p (d, true)) r (fun i => (r, i)) (fun c => c.Benefit == b) (fun c => if b == 2 then (ofP (fs l) p).any (diB d) else if b == 3 then (hrs (fs l) c.Ref d).any (fun y => y.Person == p) else true) (by omega) (fun rec i y hi hy => ?_) fun rec => ?_]
      · simp only [e4, Bool.false_eq_true, if_false]
        cases r.find? (fun c => c.Benefit == b) <;> rfl
      · unfold db
        dsimp only
        rw [if_pos (ox hi)]
        simp only [d6 hy, Option.bind_some, Fw hl, Q9 (fs l) p d (by omega : (fs l).length ≤ 2 ^ 30), a52 hl]
        obtain ⟨n, e1, e2⟩ := a87 (hrs (fs l) y.Ref d) p (by have := a94 (fs l) y.Ref d; omega)
        rw [e1, Option.bind_some, e2, e4]
        cases hb : (y.Benefit == b)
        · rw [if_pos (by simp [bne, hb])]; simp
        · rw [if_neg (by simp [bne, hb]), if_pos rfl]
          cases (b == 2)
          · cases (b == 3) <;> simp
          · simp
      · unfold db
        dsimp only
        rw [if_neg (jt _)]
theorem a3u {s : pensionlaw26_Seeds} (h : s.Laws.length ≤ 9223372036854775807 ∧ s.Lives.length ≤ 9223372036854775807 ∧ s.Facts.length ≤ 9223372036854775807 ∧ s.Claims.length ≤ 9223372036854775807) : Tot (qo s) fun r => r.2.1.length ≤ 27 ∧ r.2.2.length ≤ 12 ∧ ∀ c ∈ r.2.2, uf c := by
  unfold qo
  refine Tot.bind (a0g h.2.1) fun a ha => Tot.bind (a1o _) fun b hb => Tot.bind (mj (by omega)) fun c hc => ?_
  subst hc
  refine Tot.bind (a5v h.1) fun x _ => Tot.bind (a3s _) fun y hy => Tot.bind (af0 _) fun z hz => Tot.bind (mj (by omega)) fun w hw => ?_
  subst hw
  refine Tot.some ⟨by simp; omega, by simp; omega, fun c hc => ?_⟩
  rcases List.mem_append.1 hc with hc | hc
  · exact hy.2 c hc
  · exact hz.2 c hc
theorem ac3 : th = some true := by kernel_rfl
theorem acl (l : List api_Fact) (cl : List Claim) (p b : Int) : di l cl p b (-1) = some false := by
  unfold di
  rw [Dt (by omega), Option.bind_some]; rfl
theorem a0s {l : List api_Fact} (hl : l.length ≤ 2 ^ 20) {cl : List Claim} (hc : cl.length ≤ 12) (hok : ∀ c ∈ cl, uf c) {p m : Int} (b : Int) (hp : 0 < p) (hm : 0 ≤ m ∧ m ≤ 2399) : ∃ v, di l cl p b m = some v ∧ iw l cl p b m = some v := by
  obtain ⟨n, rfl⟩ : ∃ n : Nat, m = (n : Int) := ⟨m.toNat, by omega⟩
  obtain ⟨q, r, h1, h2, h3, h4⟩ := Rl cl hc hok p n hp hm
  exact ⟨_, acy hl h1 h2 (by omega) (Cq (by omega)), abn hl h3 (by omega) (Cp (by omega))⟩
theorem yd (s : pensionlaw26_Seeds) (p b m : Int) (h : s.Laws.length ≤ 9223372036854775807 ∧ s.Lives.length ≤ 9223372036854775807 ∧ s.Facts.length ≤ 9223372036854775807 ∧ s.Claims.length ≤ 9223372036854775807) : ey s p b m = some true := by
  obtain ⟨x, hx, k1, k2, k3⟩ := a3u h
  obtain ⟨p', hp, p1, p2⟩ := T1 p
  obtain ⟨m', hm, m1, m2⟩ := Ul m
  obtain ⟨v, e1, e2⟩ := a0s (l := x.2.1) (by omega) k2 k3 (p := p') (m := m') (i64 (1 + b % 5)) (by omega) (by omega)
  unfold ey
  rw [hx, Option.bind_some, hp, Option.bind_some, Js (by decide) (by decide), Option.bind_some, hm, Option.bind_some, ac3, Option.bind_some, if_pos rfl, e1, Option.bind_some, e2, Option.bind_some, Option.bind_some, acl]
  simp
end Go.PL
