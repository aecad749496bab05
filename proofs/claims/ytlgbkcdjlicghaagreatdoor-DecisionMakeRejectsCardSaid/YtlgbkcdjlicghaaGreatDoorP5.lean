/- Texts of the proof, joined. -/
import Derived.Test.YtlgbkcdjlicghaaGreatDoorP4
import Derived.KernelRfl
set_option linter.unusedVariables false
set_option linter.unusedSimpArgs false
set_option maxRecDepth 100000
namespace Go.PL
open Go Go.SX
theorem e0j {A T : List Claim} {x y : Claim} : b0x (b0x (A ++ y :: x :: T) ((A.length : Int) + 1) y) (A.length : Int) x = A ++ x :: y :: T := by
  have e1 : ((A.length : Int) + 1).toNat = A.length + 1 := by omega
  unfold b0x
  rw [if_pos (by omega), if_pos (by omega), e1, Int.toNat_natCast]
  rw [List.set_append_right _ _ (by omega), List.set_append_right _ _ (by omega)]
  simp
theorem d1g {A T : List Claim} {x : Claim} : l8 (A ++ x :: T) (A.length : Int) = some x := by
  rw [b34]; simp
theorem e9g {A T : List Claim} {x y : Claim} : b0x (A ++ y :: x :: T) ((A.length : Int) + 1) y = A ++ y :: y :: T := by
  have e1 : ((A.length : Int) + 1).toNat = A.length + 1 := by omega
  unfold b0x
  rw [if_pos (by omega), e1, List.set_append_right _ _ (by omega)]
  simp
def e9f (cmp : Claim -> Claim -> Option Int) (a1 : Int) (r2 : ((List Claim) × Int) -> Option (List Claim)) (v1 : (List Claim) × Int) (r4 : ((List Claim) × Int) -> Option (List Claim)) (v3 : (List Claim) × Int) : Option (List Claim) :=
  (if (decide (v3.2 > a1)) then (l8 v3.1 v3.2).bind fun v5 => (l8 v3.1 v3.2).bind fun v6 => (l8 v3.1 (i64 (v3.2 - 1))).bind fun v7 => (l8 v3.1 (i64 (v3.2 - 1))).bind fun v8 => (cmp v6 v8).bind fun v9 => some (decide (v9 < 0)) else some false).bind fun v10 =>
  if v10 then (l8 v3.1 (i64 (v3.2 - 1))).bind fun v11 => (l8 v3.1 (i64 (v3.2 - 1))).bind fun v12 => (l8 v3.1 v3.2).bind fun v13 => (l8 v3.1 v3.2).bind fun v14 => (l8 v3.1 v3.2).bind fun v15 => (l8 v3.1 v3.2).bind fun v16 =>
    (l8 (b0x v3.1 v3.2 v12) (i64 (v3.2 - 1))).bind fun v17 => (l8 (b0x v3.1 v3.2 v12) (i64 (v3.2 - 1))).bind fun v18 => r4 (b0x (b0x v3.1 v3.2 v12) (i64 (v3.2 - 1)) v14, i64 (v3.2 - 1))
  else r2 (v3.1, i64 (v1.2 + 1))
def e03 (cmp : Claim -> Claim -> Option Int) (a2 : Int) (a1 : Int) (r2 : ((List Claim) × Int) -> Option (List Claim)) (v1 : (List Claim) × Int) : Option (List Claim) :=
  if (decide (v1.2 < a2)) then d9 FU (e9f cmp a1 r2 v1) (v1.1, v1.2) else some v1.1
def f5i (cmp : Claim -> Claim -> Option Int) (a0 : List Claim) (a1 : Int) (a2 : Int) : Option (List Claim) := d9 FU (e03 cmp a2 a1) (a0, i64 (a1 + 1))
theorem d0s : p7 = f5i a34 := rfl
section
variable {c : Claim -> Claim -> Int} {cmp : Claim -> Claim -> Option Int} {S : Claim -> Prop}
structure Ordered (c : Claim -> Claim -> Int) (S : Claim -> Prop) : Prop where
  asymm : ∀ x y, S x -> S y -> c x y < 0 -> ¬ c y x < 0
  trans : ∀ x y z, S x -> S y -> S z -> ¬ c y x < 0 -> ¬ c z y < 0 -> ¬ c z x < 0
def Le (c : Claim -> Claim -> Int) (x y : Claim) : Prop := ¬ c y x < 0
theorem c1x (hO : Ordered c S) (hc : ∀ x y, S x -> S y -> cmp x y = some (c x y)) (orig : List Claim) (hS : ∀ x ∈ orig, S x) (hlen : orig.length <= 1000) (i : Nat) (rec : List Claim × Int -> Option (List Claim))
    (A : List Claim) (x : Claim) (C : List Claim) (hi : A.length = i) (hp : (A ++ x :: C).Perm orig) (hs : A.Pairwise (Le c)) :
    ∃ A' : List Claim, A'.length = i + 1 /\ (A' ++ C).Perm orig /\ A'.Pairwise (Le c) /\
      d9 FU (e9f cmp 0 rec (A ++ x :: C, (i : Int))) (A ++ x :: C, (i : Int)) = rec (A' ++ C, ((i + 1 : Nat) : Int)) := by
  have hil : i < 1000 := by have := hp.length_eq; simp at this; omega
  refine b9o (fun s => ∃ (A1 B : List Claim), s = (A1 ++ x :: (B ++ C), (A1.length : Int)) /\ A1.length + B.length = i /\ (A1 ++ x :: (B ++ C)).Perm orig /\ (A1 ++ B).Pairwise (Le c) /\ ∀ b ∈ B, Le c x b) (fun s => s.2.toNat)
    (fun o => ∃ A' : List Claim, A'.length = i + 1 /\ (A' ++ C).Perm orig /\ A'.Pairwise (Le c) /\ o = rec (A' ++ C, ((i + 1 : Nat) : Int))) ⟨A, [], by simp [hi], by simpa using hi, by simpa using hp, by simpa using hs, by simp⟩ (by show ((i : Int)).toNat < _; omega) ?_
  rintro s rec2 ⟨A1, B, rfl, hl, hp1, hs1, hb⟩
  have hmem : ∀ y ∈ A1 ++ x :: (B ++ C), S y := fun y hy => hS y (hp1.subset hy)
  have hSx : S x := hmem x (by simp)
  have stop : ∀ o : Option (List Claim), o = rec (A1 ++ x :: (B ++ C), i64 ((i : Int) + 1)) -> (∀ a ∈ A1, Le c a x) ->
      ∃ A' : List Claim, A'.length = i + 1 /\ (A' ++ C).Perm orig /\ A'.Pairwise (Le c) /\ o = rec (A' ++ C, ((i + 1 : Nat) : Int)) := by
    intro o ho ha
    refine ⟨A1 ++ x :: B, by simp; omega, by simpa using hp1, ?_, ?_⟩
    . rw [List.pairwise_append] at hs1 ⊢
      refine ⟨hs1.1, List.pairwise_cons.2 ⟨hb, hs1.2.1⟩, fun a h1 b h2 => ?_⟩
      rcases List.mem_cons.1 h2 with h2 | h2
      . rw [h2]; exact ha a h1
      . exact hs1.2.2 a h1 b h2
    . rw [ho, i8 (by omega) (by omega)]; simp
  unfold e9f
  rcases List.eq_nil_or_concat A1 with h0 | ⟨A2, y, h0⟩
  . subst h0
    left
    have : decide ((([] : List Claim).length : Int) > (0 : Int)) = false := by simp
    simp only [this, Bool.false_eq_true, if_false, Option.bind_some]
    exact stop _ rfl (by simp)
  . have h0 : A1 = A2 ++ [y] := by simpa using h0
    subst h0
    have e0 : (((A2 ++ [y]).length : Nat) : Int) = (A2.length : Int) + 1 := by simp
    have hd : decide ((((A2 ++ [y]).length : Nat) : Int) > (0 : Int)) = true := by rw [e0, decide_eq_true_eq]; omega
    have hA2 : A2.length < 1000 := by simp at hl; omega
    have e1 : i64 ((((A2 ++ [y]).length : Nat) : Int) - 1) = (A2.length : Int) := by rw [e0, i8 (by omega) (by omega)]; omega
    have eL : A2 ++ [y] ++ x :: (B ++ C) = A2 ++ y :: x :: (B ++ C) := by simp
    have g1 : l8 (A2 ++ [y] ++ x :: (B ++ C)) (((A2 ++ [y]).length : Nat) : Int) = some x := d1g
    have g2 : l8 (A2 ++ [y] ++ x :: (B ++ C)) (A2.length : Int) = some y := by rw [eL]; exact d1g
    have g3 : l8 (b0x (A2 ++ [y] ++ x :: (B ++ C)) (((A2 ++ [y]).length : Nat) : Int) y) (A2.length : Int) = some y := by rw [eL, e0, e9g]; exact d1g
    have hSy : S y := hmem y (by simp)
    simp only [hd, if_true, g1, e1, g2, g3, hc x y hSx hSy, Option.bind_some]
    by_cases hlt : c x y < 0
    . right
      simp only [hlt, decide_true, if_true]
      refine ⟨_, rfl, ⟨A2, y :: B, ?_, by simp at hl ⊢; omega, ?_, by simpa using hs1, ?_⟩, by simp only [e0, Int.toNat_natCast]; omega⟩
      . rw [eL, e0, e0j]; simp
      . refine List.Perm.trans ?_ hp1
        rw [eL]
        exact List.Perm.append_left A2 (List.Perm.swap y x (B ++ C))
      . intro b hbm
        rcases List.mem_cons.1 hbm with hbm | hbm
        . rw [hbm]; exact hO.asymm x y hSx hSy hlt
        . exact hb b hbm
    . left
      simp only [hlt, decide_false, Bool.false_eq_true, if_false]
      refine stop _ rfl (fun a ha => ?_)
      rw [List.mem_append, List.mem_singleton] at ha
      rcases ha with ha | ha
      . have hay : Le c a y := by
          rw [List.append_assoc, List.pairwise_append] at hs1
          exact hs1.2.2 a ha y (by simp)
        exact hO.trans a y x (hmem a (by simp [ha])) hSy hSx hay hlt
      . rw [ha]; exact hlt
theorem c80 (hO : Ordered c S) (hc : ∀ x y, S x -> S y -> cmp x y = some (c x y)) (orig : List Claim) (hS : ∀ x ∈ orig, S x) (hlen : orig.length <= 1000) :
    ∃ r, f5i cmp orig 0 (orig.length : Int) = some r /\ r.Perm orig /\ r.Pairwise (Le c) := by
  unfold f5i
  by_cases hne : orig = []
  . subst hne
    refine ⟨[], ?_, List.Perm.refl _, List.Pairwise.nil⟩
    have : ∀ k, 0 < k -> d9 k (e03 cmp (([] : List Claim).length : Int) 0) ([], i64 (0 + 1)) = some [] := by
      intro k hk
      cases k with
      | zero => exact absurd hk (Nat.lt_irrefl 0)
      | succ k => show e03 _ _ _ _ _ = _; unfold e03; dsimp only; rw [if_neg (by rw [i8 (by omega) (by omega)]; simp)]
    exact this FU (by unfold FU; omega)
  have hpos : 0 < orig.length := List.length_pos_iff.2 hne
  have e1 : i64 (0 + 1) = ((1 : Nat) : Int) := by rw [i8 (by omega) (by omega)]; rfl
  rw [e1]
  refine a9y (fun s => ∃ (A C : List Claim), s = (A ++ C, (A.length : Int)) /\ 1 <= A.length /\ (A ++ C).Perm orig /\ A.Pairwise (Le c)) (fun s => orig.length - s.2.toNat) _ ?_ (by show orig.length - _ < _; omega) ?_
  . cases orig with
    | nil => exact absurd rfl hne
    | cons x r => exact ⟨[x], r, rfl, by simp, List.Perm.refl _, List.pairwise_singleton _ _⟩
  . rintro s rec ⟨A, C, rfl, hA, hp, hs⟩
    unfold e03
    dsimp only
    have hle := hp.length_eq
    rw [List.length_append] at hle
    cases C with
    | nil =>
      left
      rw [if_neg (by simp at hle ⊢; omega)]
      exact ⟨A ++ [], rfl, hp, by simpa using hs⟩
    | cons x C =>
      right
      rw [List.length_cons] at hle
      rw [if_pos (by simp; omega)]
      obtain ⟨A', h1, h2, h3, h4⟩ := c1x hO hc orig hS hlen A.length rec A x C rfl hp hs
      refine ⟨_, h4, ⟨A', C, by rw [h1], by omega, h2, h3⟩, by simp only [Int.toNat_natCast]; omega⟩
end
def sgn (p q : Int) : Int := if p < q then -1 else if q < p then 1 else 0
theorem d0r (x y : Int) : o6 x y = some (sgn x y) := by
  unfold o6 a5i sgn
  simp only [bne_self_eq_false, Option.bind_some, Bool.false_eq_true, if_false, decide_eq_true_eq, gt_iff_lt]
  split
  . rfl
  . split <;> rfl
def orI : List Int -> Int
  | [] => 0
  | x :: r => if x = 0 then orI r else x
theorem e87 (p q : Int) : sgn p q < 0 ↔ p < q := by
  unfold sgn; split
  . omega
  . split <;> omega
theorem e1o (p q : Int) : sgn p q = 0 ↔ p = q := by
  unfold sgn; split
  . omega
  . split <;> omega
theorem e33 (x : Int) (r : List Int) : orI (x :: r) < 0 ↔ x < 0 \/ x = 0 /\ orI r < 0 := by
  simp only [orI]; split <;> omega
def c7m (a b : Claim) : Int := orI [sgn a.Issuer b.Issuer, sgn a.Number b.Number, sgn a.Day b.Day, sgn a.Person b.Person, sgn a.Benefit b.Benefit, sgn a.Ref b.Ref]
theorem b4r (a b : Claim) : c7m a b < 0 ↔ a.Issuer < b.Issuer \/ a.Issuer = b.Issuer /\ (a.Number < b.Number \/ a.Number = b.Number /\ (a.Day < b.Day \/ a.Day = b.Day /\ (a.Person < b.Person \/ a.Person = b.Person /\ (a.Benefit < b.Benefit \/ a.Benefit = b.Benefit /\ a.Ref < b.Ref)))) := by
  unfold c7m
  simp only [e33, e87, e1o]
  simp [orI]
theorem c94 {a b : Claim} (h1 : a.Issuer = b.Issuer) (h2 : a.Number = b.Number) (h3 : a.Person = b.Person) (h4 : a.Benefit = b.Benefit) (h5 : a.Ref = b.Ref) (h6 : a.Day = b.Day) : a = b := by
  cases a; cases b; simp_all
theorem d7j {a b : Claim} (h1 : ¬ c7m a b < 0) (h2 : ¬ c7m b a < 0) : a = b := by
  rw [b4r] at h1 h2
  exact c94 (by omega) (by omega) (by omega) (by omega) (by omega) (by omega)
theorem d60 {a b c : Claim} (h1 : c7m a b < 0) (h2 : c7m b c < 0) : c7m a c < 0 := by
  rw [b4r] at *; omega
theorem c93 (S : Claim -> Prop) : Ordered c7m S := by
  constructor
  . intro x y _ _; rw [b4r, b4r]; omega
  . intro x y z _ _ _; rw [b4r, b4r, b4r]; omega
theorem f8d (l : List Int) (hl : l.length <= 1000) : a4f l = some (orI l) := by
  unfold a4f
  obtain ⟨r, h1, h2⟩ := a9y (f := a47 l) (fun s => ∃ A B, l = A ++ B /\ s = (A.length : Int) /\ orI l = orI B) (fun s => l.length - s.toNat) (fun r => r = orI l) (s := 0) ⟨[], l, rfl, rfl, rfl⟩ (by show l.length - _ < _; omega) (by
    rintro s rec ⟨A, B, hAB, rfl, ho⟩
    unfold a47
    have hlen : l.length = A.length + B.length := by rw [hAB]; simp
    cases B with
    | nil =>
      left
      rw [if_neg (by simp at hlen ⊢; omega)]
      exact ⟨_, rfl, by rw [ho]; rfl⟩
    | cons y B =>
      rw [List.length_cons] at hlen
      have hg : l8 l (A.length : Int) = some y := by rw [hAB, b34]; simp
      rw [if_pos (by simp; omega), hg, Option.bind_some]
      by_cases hy : y = 0
      . right
        rw [if_neg (by simp [hy]), i8 (n := (A.length : Int) + 1) (by omega) (by omega)]
        exact ⟨((A ++ [y]).length : Int), by simp, ⟨A ++ [y], B, by rw [hAB]; simp, rfl, by rw [ho, hy]; rfl⟩, by simp; omega⟩
      . left
        rw [if_pos (by simpa using hy)]
        exact ⟨_, rfl, by rw [ho]; simp [orI, hy]⟩)
  rw [h1, h2]
theorem d1m (a b : Claim) : a34 a b = some (c7m a b) := by
  unfold a34
  simp only [d0r, Option.bind_some]
  rw [f8d _ (by simp)]; rfl
def eqF (a b : Claim) : Bool := (a.Issuer == b.Issuer) && ((a.Number == b.Number) && ((a.Person == b.Person) && ((a.Benefit == b.Benefit) && ((a.Ref == b.Ref) && ((a.Day == b.Day) && (true))))))
theorem e06 (a b : Claim) : eqF a b = true ↔ a = b := by
  unfold eqF
  simp only [Bool.and_eq_true, beq_iff_eq, Bool.and_true]
  constructor
  . rintro ⟨h1, h2, h3, h4, h5, h6⟩; exact c94 h1 h2 h3 h4 h5 h6
  . rintro rfl; simp
instance : DecidableEq Claim := fun a b => decidable_of_iff _ (e06 a b)
theorem d9l (a b : Claim) : ((a.Issuer == b.Issuer) && ((a.Number == b.Number) && ((a.Person == b.Person) && ((a.Benefit == b.Benefit) && ((a.Ref == b.Ref) && ((a.Day == b.Day) && (true))))))) = decide (a = b) := by
  rw [Bool.eq_iff_iff, decide_eq_true_eq]; exact e06 a b
def ddF (p : Claim) : List Claim -> List Claim
  | [] => []
  | y :: r => if y = p then ddF p r else y :: ddF y r
def dd : List Claim -> List Claim
  | [] => []
  | x :: r => x :: ddF x r
theorem c69 : ∀ (A : List Claim) (p y z : Claim), ddF p (A ++ [y, z]) = if z = y then ddF p (A ++ [y]) else ddF p (A ++ [y]) ++ [z]
  | [], p, y, z => by
    simp only [List.nil_append, ddF]
    by_cases h1 : y = p <;> by_cases h2 : z = y <;> simp_all
  | x :: A, p, y, z => by
    simp only [List.cons_append, ddF]
    split
    . exact c69 A p y z
    . rw [c69 A x y z]; split <;> simp
theorem e7w (A : List Claim) (y z : Claim) : dd (A ++ [y, z]) = if z = y then dd (A ++ [y]) else dd (A ++ [y]) ++ [z] := by
  cases A with
  | nil => simp only [List.nil_append, dd, ddF]; split <;> simp
  | cons x A => simp only [List.cons_append, dd]; rw [c69]; split <;> simp
theorem d8u {l : List Claim} {m : Nat} (h0 : 0 < m) {y z : Claim} (hy : l[m - 1]? = some y) (hz : l[m]? = some z) : dd (l.take (m + 1)) = if z = y then dd (l.take m) else dd (l.take m) ++ [z] := by
  obtain ⟨hm, hz'⟩ := List.getElem?_eq_some_iff.1 hz
  obtain ⟨hm1, hy'⟩ := List.getElem?_eq_some_iff.1 hy
  have e1 : l.take m = l.take (m - 1) ++ [y] := by
    have := List.take_succ_eq_append_getElem (l := l) (i := m - 1) hm1
    rw [show m - 1 + 1 = m by omega, hy'] at this
    exact this
  have e2 : l.take (m + 1) = l.take (m - 1) ++ [y, z] := by
    rw [List.take_succ_eq_append_getElem hm, hz', e1]; simp
  rw [e2, e1, e7w]
theorem d1n : ∀ (r : List Claim) (p x : Claim), x ∈ p :: ddF p r ↔ x ∈ p :: r
  | [], p, x => Iff.rfl
  | y :: r, p, x => by
    simp only [ddF]
    split
    . rename_i h
      rw [d1n r p x, h]; simp
    . have := d1n r y x
      simp only [List.mem_cons] at this ⊢
      constructor
      . rintro (h | h)
        . exact .inl h
        . exact .inr (this.1 h)
      . rintro (h | h)
        . exact .inl h
        . exact .inr (this.2 h)
theorem f3v (l : List Claim) (x : Claim) : x ∈ dd l ↔ x ∈ l := by
  cases l with
  | nil => exact Iff.rfl
  | cons y r => exact d1n r y x
theorem c0b : ∀ (r : List Claim) (p : Claim), (p :: r).Pairwise (Le c7m) -> (p :: ddF p r).Pairwise (fun a b => c7m a b < 0)
  | [], p, _ => List.pairwise_singleton _ _
  | y :: r, p, h => by
    obtain ⟨h1, h2⟩ := List.pairwise_cons.1 h
    simp only [ddF]
    split
    . rename_i hy
      subst hy
      exact c0b r y h2
    . rename_i hy
      have h3 := c0b r y h2
      have hpy : c7m p y < 0 := by
        by_cases h4 : c7m p y < 0
        . exact h4
        . exact absurd (d7j h4 (h1 y (by simp))).symm hy
      refine List.pairwise_cons.2 ⟨fun b hb => ?_, h3⟩
      rcases List.mem_cons.1 hb with hb | hb
      . rw [hb]; exact hpy
      . exact d60 hpy ((List.pairwise_cons.1 h3).1 b hb)
theorem d9c {l : List Claim} (h : l.Pairwise (Le c7m)) : (dd l).Pairwise (fun a b => c7m a b < 0) := by
  cases l with
  | nil => exact List.Pairwise.nil
  | cons y r => exact c0b r y h
theorem c5s (l : List Claim) (hl : l.length <= 1000) (k : Nat) (hk1 : 1 <= k) (h : k < l.length) (htk : dd (l.take (k + 1)) = l.take k) (m : Nat) (hsl : m = l.length - k) :
    ∃ r, d9 FU a02 (l, (k : Int), 1, ((k : Int), m)) = some r /\ r = dd l := by
  refine a9y (f := a02) (fun s => ∃ (k3 k2 : Nat) (cur : List Claim), s = (cur, (k3 : Int), (k2 : Int), ((k : Int), m)) /\ 1 <= k2 /\ k + k2 <= l.length /\ k <= k3 /\ k3 + 1 <= k + k2 /\ cur.length = l.length /\ cur.take k3 = dd (l.take (k + k2)) /\ ∀ j, k + k2 - 1 <= j -> cur[j]? = l[j]?)
    (fun s => l.length - s.2.2.1.toNat) _ ⟨k, 1, l, rfl, by omega, by omega, by omega, by omega, rfl, htk.symm, fun _ _ => rfl⟩ (by show l.length - _ < _; omega) ?_
  rintro s rec2 ⟨k3, k2, cur, rfl, a1, a2, a3, a4, hcl, hct, hcj⟩
  unfold a02
  dsimp only
  by_cases hlt : k + k2 < l.length
  . right
    have hz2 : l[k + k2]? = some l[k + k2] := List.getElem?_eq_getElem hlt
    have hy2 : l[k + k2 - 1]? = some l[k + k2 - 1] := List.getElem?_eq_getElem (by omega)
    have w1 : l8 cur ((k : Int) + (k2 : Int)) = some l[k + k2] := by rw [<- Int.natCast_add, b34, hcj _ (by omega), hz2]
    have v1 : c1f cur (k : Int) (k2 : Int) = some l[k + k2] := by unfold c1f; rw [if_pos (by omega), w1]
    have e2 : i64 ((k2 : Int) - 1) = ((k2 - 1 : Nat) : Int) := by rw [i8 (by omega) (by omega)]; omega
    have w2 : l8 cur ((k : Int) + ((k2 - 1 : Nat) : Int)) = some l[k + k2 - 1] := by rw [<- Int.natCast_add, b34, show k + (k2 - 1) = k + k2 - 1 by omega, hcj _ (Nat.le_refl _), hy2]
    have v2 : c1f cur (k : Int) ((k2 - 1 : Nat) : Int) = some l[k + k2 - 1] := by unfold c1f; rw [if_pos (by omega), w2]
    have v3 : l8 cur (k3 : Int) = some (cur[k3]'(by omega)) := by rw [b34]; exact List.getElem?_eq_getElem _
    have ht2 := d8u (by omega) hy2 hz2
    have e3 : i64 ((k2 : Int) + 1) = ((k2 + 1 : Nat) : Int) := by rw [i8 (by omega) (by omega)]; simp
    have e4 : i64 ((k3 : Int) + 1) = ((k3 + 1 : Nat) : Int) := by rw [i8 (by omega) (by omega)]; simp
    have hd0 : decide ((k2 : Int) < (m : Int)) = true := decide_eq_true (by omega)
    simp only [hd0, if_true, v1, w1, e2, v2, w2, Option.bind_some, d9l, v3, e3, e4]
    by_cases hq : l[k + k2] = l[k + k2 - 1]
    . rw [if_neg (by simpa using hq)]
      rw [if_pos hq] at ht2
      exact ⟨_, rfl, ⟨k3, k2 + 1, cur, rfl, by omega, by omega, a3, by omega, hcl, by rw [hct, <- ht2]; rfl, fun j hj => hcj j (by omega)⟩, by simp only [Int.toNat_natCast]; omega⟩
    . rw [if_pos (by simpa using hq)]
      rw [if_neg hq] at ht2
      refine ⟨_, rfl, ⟨k3 + 1, k2 + 1, b0x cur (k3 : Int) l[k + k2], rfl, by omega, by omega, by omega, by omega, by rw [c2j]; exact hcl, ?_, fun j hj => ?_⟩, by simp only [Int.toNat_natCast]; omega⟩
      . have : b0x cur (k3 : Int) l[k + k2] = cur.set k3 l[k + k2] := by unfold b0x; rw [if_pos (by omega), Int.toNat_natCast]
        rw [this, List.take_succ_eq_append_getElem (by rw [List.length_set]; omega)]
        have h5 : (cur.set k3 l[k + k2]).take k3 = cur.take k3 := by rw [List.take_set, List.set_eq_of_length_le (by rw [List.length_take]; omega)]
        rw [h5, hct, show k + (k2 + 1) = k + k2 + 1 by omega, ht2]
        simp
      . have : b0x cur (k3 : Int) l[k + k2] = cur.set k3 l[k + k2] := by unfold b0x; rw [if_pos (by omega), Int.toNat_natCast]
        rw [this, List.getElem?_set_ne (by omega)]
        exact hcj j (by omega)
  . left
    have hd0 : decide ((k2 : Int) < (m : Int)) = false := decide_eq_false (by omega)
    simp only [hd0, Bool.false_eq_true, if_false]
    have hcc : (b02 (⟨0, 0, 0, 0, 0, 0⟩ : Claim) cur (k3 : Int)).length = cur.length := by unfold b02; simp; omega
    rw [b3u (by omega) (by omega) (by omega), Option.bind_some]
    unfold f3h
    rw [if_pos (by simp; omega), Option.bind_some, b3u (by omega) (by omega) (by rw [hcc]; omega), Option.bind_some]
    refine ⟨_, rfl, ?_⟩
    have hkk : k + k2 = l.length := by omega
    rw [hkk, List.take_length] at hct
    rw [<- hct]
    unfold b02
    simp only [Int.toNat_natCast, Int.toNat_zero, List.drop_zero, Nat.sub_zero]
    rw [List.take_append_of_le_length (by rw [List.length_take]; omega), List.take_take, Nat.min_self]
theorem c7p (l : List Claim) (hl : l.length <= 1000) (rec : List Claim × Int -> Option (List Claim)) (k : Nat) (hk1 : 1 <= k) (h : k < l.length) :
    s8 rec (l, (k : Int)) = if l[k] = l[k - 1] then d9 FU a02 (l, (k : Int), 1, ((k : Int), ((l.drop k).take (l.length - k)).length)) else rec (l, ((k + 1 : Nat) : Int)) := by
  have hz : l8 l (k : Int) = some l[k] := by rw [b34]; exact List.getElem?_eq_getElem h
  have e1 : i64 ((k : Int) - 1) = ((k - 1 : Nat) : Int) := by rw [i8 (by omega) (by omega)]; omega
  have hy : l8 l (i64 ((k : Int) - 1)) = some l[k - 1] := by rw [e1, b34]; exact List.getElem?_eq_getElem (by omega)
  have hs : a3w l (k : Int) (l.length : Int) = some ((l.drop k).take (l.length - k)) := by rw [b3u (by omega) (by omega) (by omega)]; simp
  have e2 : i64 ((k : Int) + 1) = ((k + 1 : Nat) : Int) := by rw [i8 (by omega) (by omega)]; simp
  have hd0 : decide ((k : Int) < (l.length : Int)) = true := decide_eq_true (by omega)
  unfold s8
  generalize d9 FU = LP
  simp only [hd0, if_true, hz, hy, hs, e2, Option.bind_some, d9l, decide_eq_true_eq]
theorem d0m (l : List Claim) (rec : List Claim × Int -> Option (List Claim)) : s8 rec (l, (l.length : Int)) = some l := by
  have hd0 : decide ((l.length : Int) < (l.length : Int)) = false := decide_eq_false (by omega)
  unfold s8
  generalize d9 FU = LP
  simp only [hd0, Bool.false_eq_true, if_false]
theorem d5f (l : List Claim) (hl : l.length <= 1000) : a1o l = some (dd l) := by
  unfold a1o
  by_cases h2 : l.length < 2
  . rw [if_pos (by simp; omega)]
    cases l with
    | nil => rfl
    | cons x r =>
      cases r with
      | nil => rfl
      | cons y r => exact absurd h2 (by simp)
  . rw [if_neg (by simp; omega)]
    obtain ⟨r, h1, h3⟩ := a9y (f := s8) (fun s => ∃ k : Nat, s = (l, (k : Int)) /\ 1 <= k /\ k <= l.length /\ dd (l.take k) = l.take k) (fun s => l.length - s.2.toNat) (fun r => r = dd l) (s := (l, 1)) ⟨1, rfl, by omega, by omega, by
        cases l with
        | nil => rfl
        | cons x r => rfl⟩ (Nat.lt_of_le_of_lt (Nat.sub_le _ _) (Nat.lt_of_le_of_lt hl (by decide))) (by
      rintro s rec ⟨k, rfl, hk1, hk, hd⟩
      by_cases h : k < l.length
      . have htk := d8u (l := l) (m := k) (by omega) (List.getElem?_eq_getElem (by omega)) (List.getElem?_eq_getElem h)
        rw [c7p l hl rec k hk1 h]
        by_cases heq : l[k] = l[k - 1]
        . left
          rw [if_pos heq]
          rw [if_pos heq, hd] at htk
          exact c5s l hl k hk1 h htk _ (by rw [List.length_take, List.length_drop]; omega)
        . right
          rw [if_neg heq]
          rw [if_neg heq, hd] at htk
          refine ⟨_, rfl, ⟨k + 1, rfl, by omega, h, ?_⟩, by simp only [Int.toNat_natCast]; omega⟩
          rw [htk, List.take_succ_eq_append_getElem h]
      . left
        have : k = l.length := by omega
        subst this
        rw [d0m]
        rw [List.take_length] at hd
        exact ⟨l, rfl, hd.symm⟩)
    rw [h1, h3]
def vB (c : Claim) : Bool := (a2n c).getD false
theorem f6p (c : Claim) : a2n c = some (vB c) := by
  obtain ⟨v, h, _⟩ := c1z c
  unfold vB; rw [h]; rfl
theorem f02 {c : Claim} (h : b22 c) : vB c = true := by unfold vB; rw [c4f h]; rfl
def d31 : Nat -> Bool
  | 0 => true
  | n + 1 => (c1n (u64 (n : Int))).isSome && d31 n
theorem d95 : d31 13 = true := by kernel_rfl
theorem c8z : ∀ (k n : Nat), d31 k = true -> n < k -> (c1n (u64 (n : Int))).isSome = true
  | 0, n, _, h => by omega
  | k + 1, n, h, hn => by
    simp only [d31, Bool.and_eq_true] at h
    by_cases e : n = k
    . rw [e]; exact h.1
    . exact c8z k n h.2 (by omega)
theorem c8l (l : List Claim) (hl : l.length <= 12) (r : List Claim) (h1 : f5i a34 l 0 (l.length : Int) = some r) : m4 l = some r := by
  rw [<- d0s] at h1
  obtain ⟨n, hn⟩ := Option.isSome_iff_exists.1 (c8z 13 l.length d95 (by omega))
  unfold m4 a0b
  rw [hn, Option.bind_some]
  have key : ∀ k, 0 < k -> ((c7 k).f_slices_pdqsortCmpFunc_of_api_Claim l 0 (l.length : Int) n) = some r := by
    intro k hk
    cases k with
    | zero => exact absurd hk (Nat.lt_irrefl 0)
    | succ k =>
      show m5 _ _ _ _ _ = _
      unfold m5
      generalize c7 k = R
      have key2 : ∀ k, 0 < k -> d9 k (l9 R) (l, 0, (l.length : Int), n, true, true) = some r := by
        intro k hk
        cases k with
        | zero => exact absurd hk (Nat.lt_irrefl 0)
        | succ k =>
          show l9 _ _ _ = _
          unfold l9
          dsimp only
          rw [i8 (by omega) (by omega), if_pos (by simp; omega), h1, Option.bind_some]
      exact key2 FU (by unfold FU; omega)
  rw [key FU (by unfold FU; omega), Option.bind_some]
theorem d1q (l : List Claim) (hl : l.length <= 12) : ∃ r, m4 l = some r /\ r.Perm l /\ r.Pairwise (Le c7m) := by
  obtain ⟨r, h1, h2, h3⟩ := c80 (c := c7m) (S := fun _ => True) (cmp := a34) (c93 _) (fun x y _ _ => d1m x y) l (fun _ _ => trivial) (by omega)
  exact ⟨r, c8l l hl r h1, h2, h3⟩
theorem e8g : ∀ (r : List Claim) (p : Claim), (ddF p r).length <= r.length := by
  intro r
  induction r with
  | nil => intro p; exact Nat.le_refl _
  | cons y r ih =>
    intro p; simp only [ddF]; split
    . exact Nat.le_succ_of_le (ih p)
    . simp only [List.length_cons]; exact Nat.succ_le_succ (ih y)
theorem f0w (s : List Claim) : (dd s).length <= s.length := by
  cases s with
  | nil => simp [dd]
  | cons x r => have := e8g r x; simp only [dd, List.length_cons] at *; omega
theorem d97 (l : List Claim) (hl : l.length <= 12) (hok : ∀ c ∈ l, b22 c) : ∃ q, a6b l = some q /\ q.Pairwise (fun a b => c7m a b < 0) /\ (∀ c, c ∈ q ↔ c ∈ l) /\ q.length <= 12 := by
  obtain ⟨r, h1, h2, h3⟩ := d1q l hl
  have hr : r.length = l.length := h2.length_eq
  refine ⟨dd r, ?_, d9c h3, fun c => by rw [f3v, h2.mem_iff], by have := f0w r; omega⟩
  unfold a6b
  refine b61 (f := a63 l) l (fun s i => (s, i)) (fun s i => s = l.take i) (fun o => o = some (dd r)) (by omega) ?_ ?_ [] (by simp)
  . rintro rec s i y hi hy rfl
    right
    unfold a63
    rw [if_pos (e54 hi)]
    simp only [c37 hy, Option.bind_some, f6p, f02 (hok y (List.mem_of_getElem? hy)), if_true]
    rw [a9f (by simp only [List.length_cons, List.length_nil, List.length_take]; omega), Option.bind_some, b94 (by omega)]
    exact ⟨_, rfl, (c6v hy).symm⟩
  . rintro rec s rfl
    unfold a63
    dsimp only
    rw [if_neg (e0z _), List.take_length, h1, Option.bind_some, d5f r (by omega), Option.bind_some]
end Go.PL
namespace Go.PL
open Go Go.SX
inductive Tk where
  | w (s : ByteArray)
  | s (s : ByteArray)
  | n (v : Fraction) (d : Int)
  | d (day : Int)
def a3e (s : ByteArray) : Bool := match s.toList with | c :: _ => !(48 <= c.toNat && c.toNat <= 57) && !c.toNat == 64 | [] => false
def TkR (t : Token) : Tk -> Prop
  | .w x => t.Kind = 1 /\ t.Text = x
  | .s x => t.Kind = 4 /\ t.Text = x
  | .n v d => t.Kind = 2 /\ s6 t.Text = some (v, d, true) /\ a3e t.Text = false
  | .d day => t.Kind = 3 /\ a4s t.Text = some day /\ a3e t.Text = false
def isT (t : Tk) (s : ByteArray) : Bool := match t with | .w x => x.toList == s.toList | .s x => x.toList == s.toList | _ => false
def kdT : Tk -> Int | .w _ => 1 | .s _ => 4 | .n _ _ => 2 | .d _ => 3
structure RdrA (r : pensionref5_reader) (ts : List Tk) : Prop where
  bad : r.bad = false
  nn : 0 <= r.at_
  len : r.l.length <= 8000
  all : q9 TkR (r.l.drop r.at_.toNat) ts
def adv (r : pensionref5_reader) : pensionref5_reader := ⟨r.l, r.at_ + 1, r.end_, r.bad⟩
section
variable {r : pensionref5_reader} {t : Tk} {ts : List Tk} {s : ByteArray}
theorem RdrA.cons (h : RdrA r (t :: ts)) : ∃ x, l8 r.l r.at_ = some x /\ TkR x t /\ r.at_ < (r.l.length : Int) /\ RdrA (adv r) ts /\ i64 (r.at_ + 1) = r.at_ + 1 := by
  obtain ⟨h1, h2, h3, h4⟩ := h
  cases hd : r.l.drop r.at_.toNat with
  | nil => rw [hd] at h4; exact h4.elim
  | cons x rest =>
    rw [hd] at h4
    have hlt : r.at_.toNat < r.l.length := by
      have := congrArg List.length hd
      simp at this; omega
    have hx : r.l[r.at_.toNat]? = some x := by
      have := congrArg List.head? hd
      simpa [List.head?_drop] using this
    refine ⟨x, d80 h2 hx, h4.1, by omega, ⟨h1, by show 0 <= r.at_ + 1; omega, h3, ?_⟩, b48 h2 (by omega)⟩
    show q9 TkR (r.l.drop (r.at_ + 1).toNat) ts
    rw [show (r.at_ + 1).toNat = r.at_.toNat + 1 by omega, <- List.drop_drop, hd]
    exact h4.2
theorem TkR.eq {x : Token} (h : TkR x t) (hs : a3e s = true) : (x.Text.toList == s.toList) = isT t s := by
  have no : a3e x.Text = false -> (x.Text.toList == s.toList) = false := fun hw => by
    cases he : (x.Text.toList == s.toList) with
    | false => rfl
    | true =>
      have he := eq_of_beq he
      unfold a3e at hw hs
      rw [he, hs] at hw
      cases hw
  cases t with
  | w y => rw [h.2]; rfl
  | s y => rw [h.2]; rfl
  | n v d => exact no h.2.2
  | d day => exact no h.2.2
theorem TkR.kd {x : Token} (h : TkR x t) : x.Kind = kdT t := by cases t <;> exact h.1
theorem e13 (h : RdrA r (t :: ts)) (hs : a3e s = true) : a03 r s = some (isT t s) := by
  obtain ⟨x, hx, hk, hlt, _, _⟩ := h.cons
  unfold a03
  rw [h.bad]
  simp only [Bool.not_false, if_true, Option.bind_some, decide_eq_true hlt, hx, hk.eq hs]
theorem b3b (h : RdrA r (t :: ts)) (k : Int) : s3 r k = some (kdT t == k) := by
  obtain ⟨x, hx, hk, hlt, _, _⟩ := h.cons
  unfold s3
  rw [h.bad]
  simp only [Bool.not_false, if_true, Option.bind_some, decide_eq_true hlt, hx, hk.kd]
theorem b29 (h : RdrA r (t :: ts)) (hs : a3e s = true) : d8 r s = some (isT t s, if isT t s then adv r else r) := by
  obtain ⟨x, hx, hk, hlt, _, hi⟩ := h.cons
  unfold d8
  rw [e13 h hs, Option.bind_some]
  cases hb : isT t s with
  | true => rw [hi]; rfl
  | false => rfl
theorem d18 (h : RdrA r (t :: ts)) (hs : a3e s = true) (ht : isT t s = true) : c6 r s = some (adv r) := by
  unfold c6
  rw [b29 h hs, Option.bind_some, ht]
  rfl
theorem d1z {x : ByteArray} (h : RdrA r (.w x :: ts)) (hn : s5 x = some true) : a0r r = some (x, adv r) := by
  obtain ⟨y, hy, hk, hlt, _, hi⟩ := h.cons
  have hx : y.Text = x := hk.2
  have h1 := h.nn
  have h2 := h.len
  unfold a0r
  rw [b3b h, Option.bind_some]
  simp only [kdT, hy, Option.bind_some, hx, hn, hi, show i64 (r.at_ + 1 - 1) = r.at_ from by rw [i8 (by omega) (by omega)]; omega]
  rfl
theorem b98 {v a b : Int} (h : RdrA r (.n ⟨v, 1⟩ 2 :: ts)) (h1 : a <= v) (h2 : v <= b) : s9 r a b = some (v, adv r) := by
  obtain ⟨y, hy, hk, hlt, _, hi⟩ := h.cons
  unfold s9
  rw [b3b h, Option.bind_some]
  simp only [kdT, hy, Option.bind_some, hk.2.1, hi, decide_eq_true h1, decide_eq_true h2, ge_iff_le]
  rfl
end
inductive AE where
  | lit (v : Fraction) (d : Int)
  | nm (s : ByteArray)
  | best (k : Int)
  | bin (op : Int) (a b : AE)
  | ite (a b c : AE)
def AE.e : AE -> Expr
  | .lit v d => ⟨1, v, d, a1f, []⟩
  | .nm s => ⟨2, ⟨0, 0⟩, 0, s, []⟩
  | .best k => ⟨3, ⟨k, 1⟩, 0, a1f, []⟩
  | .bin op a b => ⟨op, ⟨0, 0⟩, 0, a1f, [a.e, b.e]⟩
  | .ite a b c => ⟨21, ⟨0, 0⟩, 0, a1f, [a.e, b.e, c.e]⟩
def f5o : List (Int × Int × ByteArray) := [(7, 5, c5t), (8, 5, b6h), (9, 6, a7c), (10, 6, b7t), (11, 4, c7g), (12, 4, b40), (13, 4, b5y), (14, 4, b3z), (15, 4, d11), (16, 4, a4v), (17, 2, b69), (18, 1, c2f)]
def f1d (lvl : Int) (t : Tk) : List (Int × Int × ByteArray) -> Int
  | [] => 0
  | (op, l, s) :: q => bif (l == lvl) && isT t s then op else f1d lvl t q
def e6h (s : ByteArray) : Bool := match s5 s with | some true => true | _ => false
inductive Md where
  | E (lvl : Nat)
  | L (lvl : Nat) (e : AE)
  | F
  | C (op : Int)
def eat (s : ByteArray) : List Tk -> Option (List Tk)
  | t :: r => bif isT t s then some r else none
  | [] => none
def pX : Nat -> Md -> List Tk -> Option (AE × List Tk)
  | 0, _, _ => none
  | k + 1, .E 0, t :: r => bif isT t a9b then
      (pX k (.E 0) r).bind fun a => (eat b6m a.2).bind fun r1 => (pX k (.E 0) r1).bind fun b => (eat b2w b.2).bind fun r2 => (pX k (.E 0) r2).bind fun c => some (.ite a.1 b.1 c.1, c.2)
    else pX k (.E 1) (t :: r)
  | k + 1, .E 3, t :: r => bif isT t b6d then none else pX k (.E 4) (t :: r)
  | k + 1, .E 7, t :: r => pX k .F (t :: r)
  | k + 1, .E lvl, t :: r => (pX k (.E (lvl + 1)) (t :: r)).bind fun a => pX k (.L lvl a.1) a.2
  | k + 1, .L lvl e, t :: r => match f1d lvl t f5o with
    | 0 => some (e, t :: r)
    | op => (pX k (.E (lvl + 1)) r).bind fun a => bif Nat.beq lvl 4 then some (.bin op e a.1, a.2) else pX k (.L lvl (.bin op e a.1)) a.2
  | k + 1, .F, t :: r => match t with
    | .n v d => some (.lit v d, r)
    | .w x => bif isT t b6h then none else bif isT t a7w then none else bif isT t b01 then (eat a7w r).bind fun r1 => match r1 with | .n ⟨v, 1⟩ 2 :: r2 => (bif decide (1 <= v) && decide (v <= 45) then (eat a9p r2).bind fun r3 => some (.best v, r3) else none) | _ => none
      else bif isT t b0a then none
      else bif isT t b4t then pX k (.C 19) (t :: r)
      else bif isT t b3m then pX k (.C 20) (t :: r)
      else bif e6h x then some (.nm x, r) else none
    | _ => none
  | k + 1, .C op, t :: r => match a0k op with
    | some 2 => (eat a7w r).bind fun r1 => (pX k (.E 0) r1).bind fun a => (eat c09 a.2).bind fun r2 => (pX k (.E 0) r2).bind fun b => (eat a9p b.2).bind fun r3 => some (.bin op a.1 b.1, r3)
    | _ => none
  | _, _, [] => none
end Go.PL
namespace Go.PL
open Go Go.SX
theorem d3v (n : Nat) (h : n <= 1000) : ∃ m, FU = m + n := ⟨FU - n, by
  have : 1000 <= FU := by unfold FU; decide
  omega⟩
section
variable {r : pensionref5_reader} {t : Tk} {ts : List Tk}
theorem a7o (h : RdrA r (t :: ts)) (lvl : Int) (k : Nat) {op l : Int} {s : ByteArray} (h0 : 0 <= op) (h1 : op <= 18) (hl : a9k op = some l) (hs : a8o op = some s) (hw : a3e s = true) :
    d9 (k + 1) (y2 lvl r) op = bif (l == lvl) && isT t s then some op else d9 k (y2 lvl r) (op + 1) := by
  rw [j8]
  unfold y2
  rw [if_pos (by simpa using h1), hl, Option.bind_some]
  cases hb : (l == lvl) with
  | false =>
    simp only [Bool.false_and, cond_false, Bool.false_eq_true, if_false, Option.bind_some]
    rw [b48 h0 (by omega)]
  | true =>
    simp only [if_true, hs, Option.bind_some, e13 h hw, Bool.true_and]
    cases isT t s with
    | true => rfl
    | false =>
      simp only [Bool.false_eq_true, if_false, cond_false]
      rw [b48 h0 (by omega)]
theorem d8t {α : Type} {b : Bool} {x y : α} : (bif b then some x else some y) = some (bif b then x else y) := by cases b <;> rfl
theorem c20 (h : RdrA r (t :: ts)) (lvl : Int) : a2p r lvl = some (f1d lvl t f5o) := by
  unfold a2p
  obtain ⟨m, hm⟩ := d3v 13 (by decide)
  rw [hm]
  rw [show m + 13 = (m + 12) + 1 from rfl, a7o h lvl (m + 12) (op := 7) (l := 5) (s := c5t) (by decide) (by decide) (by kernel_rfl) (by kernel_rfl) (by kernel_rfl)]
  rw [show m + 12 = (m + 11) + 1 from rfl, show (7 : Int) + 1 = 8 from rfl, a7o h lvl (m + 11) (op := 8) (l := 5) (s := b6h) (by decide) (by decide) (by kernel_rfl) (by kernel_rfl) (by kernel_rfl)]
  rw [show m + 11 = (m + 10) + 1 from rfl, show (8 : Int) + 1 = 9 from rfl, a7o h lvl (m + 10) (op := 9) (l := 6) (s := a7c) (by decide) (by decide) (by kernel_rfl) (by kernel_rfl) (by kernel_rfl)]
  rw [show m + 10 = (m + 9) + 1 from rfl, show (9 : Int) + 1 = 10 from rfl, a7o h lvl (m + 9) (op := 10) (l := 6) (s := b7t) (by decide) (by decide) (by kernel_rfl) (by kernel_rfl) (by kernel_rfl)]
  rw [show m + 9 = (m + 8) + 1 from rfl, show (10 : Int) + 1 = 11 from rfl, a7o h lvl (m + 8) (op := 11) (l := 4) (s := c7g) (by decide) (by decide) (by kernel_rfl) (by kernel_rfl) (by kernel_rfl)]
  rw [show m + 8 = (m + 7) + 1 from rfl, show (11 : Int) + 1 = 12 from rfl, a7o h lvl (m + 7) (op := 12) (l := 4) (s := b40) (by decide) (by decide) (by kernel_rfl) (by kernel_rfl) (by kernel_rfl)]
  rw [show m + 7 = (m + 6) + 1 from rfl, show (12 : Int) + 1 = 13 from rfl, a7o h lvl (m + 6) (op := 13) (l := 4) (s := b5y) (by decide) (by decide) (by kernel_rfl) (by kernel_rfl) (by kernel_rfl)]
  rw [show m + 6 = (m + 5) + 1 from rfl, show (13 : Int) + 1 = 14 from rfl, a7o h lvl (m + 5) (op := 14) (l := 4) (s := b3z) (by decide) (by decide) (by kernel_rfl) (by kernel_rfl) (by kernel_rfl)]
  rw [show m + 5 = (m + 4) + 1 from rfl, show (14 : Int) + 1 = 15 from rfl, a7o h lvl (m + 4) (op := 15) (l := 4) (s := d11) (by decide) (by decide) (by kernel_rfl) (by kernel_rfl) (by kernel_rfl)]
  rw [show m + 4 = (m + 3) + 1 from rfl, show (15 : Int) + 1 = 16 from rfl, a7o h lvl (m + 3) (op := 16) (l := 4) (s := a4v) (by decide) (by decide) (by kernel_rfl) (by kernel_rfl) (by kernel_rfl)]
  rw [show m + 3 = (m + 2) + 1 from rfl, show (16 : Int) + 1 = 17 from rfl, a7o h lvl (m + 2) (op := 17) (l := 2) (s := b69) (by decide) (by decide) (by kernel_rfl) (by kernel_rfl) (by kernel_rfl)]
  rw [show m + 2 = (m + 1) + 1 from rfl, show (17 : Int) + 1 = 18 from rfl, a7o h lvl (m + 1) (op := 18) (l := 1) (s := c2f) (by decide) (by decide) (by kernel_rfl) (by kernel_rfl) (by kernel_rfl)]
  have e : d9 (m + 1) (y2 lvl r) (18 + 1) = some 0 := by
    rw [j8]
    unfold y2
    rw [if_neg (by simp)]
  rw [e]
  unfold f5o
  simp only [f1d]
  simp only [d8t]
theorem c22 {s : ByteArray} {us : List Tk} (h : RdrA r ts) (hs : a3e s = true) (he : eat s ts = some us) : c6 r s = some (adv r) /\ RdrA (adv r) us := by
  cases ts with
  | nil => cases he
  | cons t ts =>
    simp only [eat] at he
    cases ht : isT t s with
    | false => rw [ht] at he; cases he
    | true =>
      rw [ht] at he
      obtain rfl := Option.some.inj he
      exact ⟨d18 h hs ht, h.cons.choose_spec.2.2.2.1⟩
end
abbrev rgE (m : Nat) := c9 m
def Snd (k : Nat) (md : Md) (r : pensionref5_reader) (out : AE × List Tk) : Prop := ∃ r', RdrA r' out.2 /\ match md with
  | .E lvl => ∀ m, k <= m -> (rgE m).f_pensionref5_reader_expr r lvl = some (out.1.e, r')
  | .F => ∀ m, k <= m -> (rgE m).f_pensionref5_reader_factor r = some (out.1.e, r')
  | .C op => ∀ m, k <= m -> (rgE m).f_pensionref5_reader_call r op = some (out.1.e, r')
  | .L lvl e => ∀ m j jl je, k <= m -> k <= j -> d9 j (u5 (rgE m) lvl) (r, jl, je, e.e) = some (out.1.e, r')
def f6d : Md -> Nat | .E l => l | .L l _ => l | .F => 0 | .C _ => 0
theorem d1h {s : ByteArray} (h : e6h s = true) : s5 s = some true := by
  unfold e6h at h
  split at h
  . assumption
  . cases h
theorem e4l {k : Nat} (h : k <= 1000) : k <= FU := by obtain ⟨m, hm⟩ := d3v k h; omega
theorem e4f : ∀ (k : Nat), k <= 1000 -> ∀ (md : Md) (ts : List Tk) (out : AE × List Tk) (r : pensionref5_reader), pX k md ts = some out -> f6d md <= 7 -> RdrA r ts -> Snd k md r out := by
  intro k
  induction k with
  | zero => intro _ md ts out r h; cases md <;> cases ts <;> simp [pX] at h
  | succ k ih =>
    intro hkk md ts out r h hl hr
    have ih := ih (by omega)
    cases ts with
    | nil => cases md <;> simp [pX] at h
    | cons t ts =>
      have hbad := hr.bad
      have hsucc : ∀ {m : Nat}, k + 1 <= m -> ∃ m', m = m' + 1 /\ k <= m' := fun {m} h => ⟨m - 1, by omega, by omega⟩
      have gen : ∀ lvl : Nat, lvl <= 6 -> lvl ≠ 0 -> lvl ≠ 3 -> ((pX k (.E (lvl + 1)) (t :: ts)).bind fun a => pX k (.L lvl a.1) a.2) = some out -> Snd (k + 1) (.E lvl) r out := by
        intro lvl h6 h0 h3 h
        obtain ⟨a, ha, h⟩ := Option.bind_eq_some_iff.1 h
        obtain ⟨r1, hr1, e1⟩ := ih _ _ _ r ha (by show lvl + 1 <= 7; omega) hr
        obtain ⟨r2, hr2, e2⟩ := ih _ _ _ r1 h (by show lvl <= 7; omega) hr1
        refine ⟨r2, hr2, fun m hm => ?_⟩
        obtain ⟨m, rfl, hm2⟩ := hsucc hm
        show k9 (rgE m) r lvl = _
        unfold k9
        have n0 : ((lvl : Int) == 0) = false := by simpa using h0
        have n3 : ((lvl : Int) == 3) = false := by simp; omega
        have n7 : ((lvl : Int) == 7) = false := by simp; omega
        have e1 := e1 m hm2
        have hi : i64 ((lvl : Int) + 1) = ((lvl + 1 : Nat) : Int) := by rw [b48 (by omega) (by omega)]; omega
        simp only [hbad, n0, n3, n7, Bool.false_eq_true, if_false, hi, e1, Option.bind_some]
        exact e2 m FU _ _ hm2 (e4l (by omega))
      cases md with
      | E lvl =>
        match lvl, hl with
        | 0, _ =>
          simp only [pX] at h
          cases hi : isT t a9b with
          | false =>
            rw [hi, cond_false] at h
            obtain ⟨r1, hr1, e1⟩ := ih _ _ _ r h (by decide) hr
            refine ⟨r1, hr1, fun m hm => ?_⟩
            obtain ⟨m, rfl, hm2⟩ := hsucc hm
            show k9 (rgE m) r 0 = _
            unfold k9
            have e1 : (rgE m).f_pensionref5_reader_expr r 1 = _ := e1 m hm2
            simp only [hbad, Bool.false_eq_true, if_false, b29 hr (show a3e a9b = true by kernel_rfl), hi, Option.bind_some, Bool.not_false, if_true, e1, BEq.rfl]
          | true =>
            rw [hi, cond_true] at h
            have hr' := hr.cons.choose_spec.2.2.2.1
            obtain ⟨a, ha, h⟩ := Option.bind_eq_some_iff.1 h
            obtain ⟨u1, hu1, h⟩ := Option.bind_eq_some_iff.1 h
            obtain ⟨b, hb, h⟩ := Option.bind_eq_some_iff.1 h
            obtain ⟨u2, hu2, h⟩ := Option.bind_eq_some_iff.1 h
            obtain ⟨c, hc, h⟩ := Option.bind_eq_some_iff.1 h
            obtain rfl := Option.some.inj h
            obtain ⟨r1, hr1, e1⟩ := ih _ _ _ _ ha (by decide) hr'
            obtain ⟨w1, hw1⟩ := c22 hr1 (show a3e b6m = true by kernel_rfl) hu1
            obtain ⟨r2, hr2, e2⟩ := ih _ _ _ _ hb (by decide) hw1
            obtain ⟨w2, hw2⟩ := c22 hr2 (show a3e b2w = true by kernel_rfl) hu2
            obtain ⟨r3, hr3, e3⟩ := ih _ _ _ _ hc (by decide) hw2
            refine ⟨r3, hr3, fun m hm => ?_⟩
            obtain ⟨m, rfl, hm2⟩ := hsucc hm
            show k9 (rgE m) r 0 = _
            unfold k9
            have e1 : (rgE m).f_pensionref5_reader_expr (adv r) 0 = _ := e1 m hm2
            have e2 : (rgE m).f_pensionref5_reader_expr _ 0 = _ := e2 m hm2
            have e3 : (rgE m).f_pensionref5_reader_expr _ 0 = _ := e3 m hm2
            simp only [hbad, Bool.false_eq_true, if_false, b29 hr (show a3e a9b = true by kernel_rfl), hi, Option.bind_some, Bool.not_true, if_true, e1, w1, e2, w2, e3, BEq.rfl]
            rfl
        | 1, _ => exact gen 1 (by decide) (by decide) (by decide) h
        | 2, _ => exact gen 2 (by decide) (by decide) (by decide) h
        | 3, _ =>
          simp only [pX] at h
          cases hi : isT t b6d with
          | true => rw [hi] at h; cases h
          | false =>
            rw [hi, cond_false] at h
            obtain ⟨r1, hr1, e1⟩ := ih _ _ _ r h (by decide) hr
            refine ⟨r1, hr1, fun m hm => ?_⟩
            obtain ⟨m, rfl, hm2⟩ := hsucc hm
            show k9 (rgE m) r 3 = _
            unfold k9
            have e1 : (rgE m).f_pensionref5_reader_expr r 4 = _ := e1 m hm2
            simp only [hbad, Bool.false_eq_true, if_false, b29 hr (show a3e b6d = true by kernel_rfl), hi, Option.bind_some, if_true, e1, BEq.rfl, show ((3 : Int) == 0) = false from rfl]
        | 4, _ => exact gen 4 (by decide) (by decide) (by decide) h
        | 5, _ => exact gen 5 (by decide) (by decide) (by decide) h
        | 6, _ => exact gen 6 (by decide) (by decide) (by decide) h
        | 7, _ =>
          simp only [pX] at h
          obtain ⟨r1, hr1, e1⟩ := ih _ _ _ r h (by decide) hr
          refine ⟨r1, hr1, fun m hm => ?_⟩
          obtain ⟨m, rfl, hm2⟩ := hsucc hm
          show k9 (rgE m) r 7 = _
          unfold k9
          have e1 : (rgE m).f_pensionref5_reader_factor r = _ := e1 m hm2
          simp only [hbad, Bool.false_eq_true, if_false, Option.bind_some, if_true, e1, BEq.rfl, show ((7 : Int) == 0) = false from rfl, show ((7 : Int) == 3) = false from rfl]
      | L lvl e =>
        have hl : lvl <= 7 := hl
        have hi : i64 ((lvl : Int) + 1) = ((lvl + 1 : Nat) : Int) := by rw [b48 (by omega) (by omega)]; omega
        have hadv := hr.cons.choose_spec.2.2.2
        have hav : (⟨r.l, i64 (r.at_ + 1), r.end_, r.bad⟩ : pensionref5_reader) = adv r := by rw [hadv.2]; rfl
        have havf : (⟨r.l, i64 (r.at_ + 1), r.end_, false⟩ : pensionref5_reader) = adv r := by rw [hadv.2]; unfold adv; rw [hbad]
        simp only [pX] at h
        cases hb : (f1d lvl t f5o == 0) with
        | true =>
          have hb := eq_of_beq hb
          rw [hb] at h
          obtain rfl := Option.some.inj h
          refine ⟨r, hr, fun m j jl je hm hj => ?_⟩
          obtain ⟨j, rfl, hj2⟩ := hsucc hj
          rw [j8]
          unfold u5
          simp only [hbad, Bool.not_false, if_true, c20 hr, Option.bind_some, hb, BEq.rfl]
        | false =>
          split at h
          . rename_i h0; rw [h0] at hb; cases hb
          . rename_i op h0
            obtain ⟨a, ha, h⟩ := Option.bind_eq_some_iff.1 h
            have h67 : lvl <= 6 := by
              refine Classical.byContradiction fun hc => h0 ?_
              have : lvl = 7 := by omega
              subst this
              rfl
            obtain ⟨r1, hr1, e1⟩ := ih _ _ _ (adv r) ha (by show lvl + 1 <= 7; omega) hadv.1
            cases h4 : Nat.beq lvl 4 with
            | true =>
              rw [h4, cond_true] at h
              obtain rfl := Option.some.inj h
              refine ⟨r1, hr1, fun m j jl je hm hj => ?_⟩
              obtain ⟨j, rfl, hj2⟩ := hsucc hj
              have e1 := e1 m (by omega)
              rw [j8]
              generalize hLP : d9 j (u5 (rgE m) (lvl : Int)) = LP
              unfold u5
              have h44 : ((lvl : Int) == 4) = true := by have := Nat.eq_of_beq_eq_true h4; subst this; rfl
              simp only [hbad, Bool.not_false, if_true, c20 hr, Option.bind_some, hb, Bool.false_eq_true, if_false, havf, hi, e1, h44]
              rfl
            | false =>
              rw [h4, cond_false] at h
              obtain ⟨r2, hr2, e2⟩ := ih _ _ _ _ h hl hr1
              refine ⟨r2, hr2, fun m j jl je hm hj => ?_⟩
              obtain ⟨j, rfl, hj2⟩ := hsucc hj
              have e1 := e1 m (by omega)
              rw [j8]
              generalize hLP : d9 j (u5 (rgE m) (lvl : Int)) = LP
              unfold u5
              have h44 : ((lvl : Int) == 4) = false := by have := Nat.ne_of_beq_eq_false h4; simp; omega
              simp only [hbad, Bool.not_false, if_true, c20 hr, Option.bind_some, hb, Bool.false_eq_true, if_false, havf, hi, e1, h44]
              rw [<- hLP]
              exact e2 m j _ _ (by omega) hj2
      | F =>
        have hadv := hr.cons.choose_spec.2.2.2
        have hav : (⟨r.l, i64 (r.at_ + 1), r.end_, r.bad⟩ : pensionref5_reader) = adv r := by rw [hadv.2]; rfl
        have havf : (⟨r.l, i64 (r.at_ + 1), r.end_, false⟩ : pensionref5_reader) = adv r := by rw [hadv.2]; unfold adv; rw [hbad]
        cases t with
        | s x => simp [pX] at h
        | d x => simp [pX] at h
        | n v d =>
          simp only [pX] at h
          obtain rfl := Option.some.inj h
          refine ⟨adv r, hadv.1, fun m hm => ?_⟩
          obtain ⟨m, rfl, hm2⟩ := hsucc hm
          show k7 (rgE m) r = _
          unfold k7
          obtain ⟨y, hy, hk, _⟩ := hr.cons
          simp only [b3b hr, kdT, Option.bind_some, BEq.rfl, if_true, hy, hk.2.1, hav]
          rfl
        | w x =>
          simp only [pX] at h
          have hk2 : ((kdT (.w x) : Int) == 2) = false := rfl
          cases hm1 : isT (.w x) b6h with
          | true => rw [hm1] at h; cases h
          | false =>
          rw [hm1, cond_false] at h
          cases hm2 : isT (.w x) a7w with
          | true => rw [hm2] at h; cases h
          | false =>
          rw [hm2, cond_false] at h
          have t1 := b29 hr (show a3e b6h = true by kernel_rfl)
          have t2 := b29 hr (show a3e a7w = true by kernel_rfl)
          have t3 := b29 hr (show a3e b01 = true by kernel_rfl)
          rw [hm1] at t1; rw [hm2] at t2
          cases hm3 : isT (.w x) b01 with
          | true =>
            rw [hm3, cond_true] at h
            rw [hm3] at t3
            obtain ⟨u1, hu1, h⟩ := Option.bind_eq_some_iff.1 h
            split at h
            . rename_i v r2
              cases hv : (decide (1 <= v) && decide (v <= 45)) with
              | false => rw [hv] at h; cases h
              | true =>
                rw [hv, cond_true] at h
                obtain ⟨u3, hu3, h⟩ := Option.bind_eq_some_iff.1 h
                obtain rfl := Option.some.inj h
                simp at hv
                obtain ⟨w1, hw1⟩ := c22 hadv.1 (show a3e a7w = true by kernel_rfl) hu1
                have w2 := b98 hw1 hv.1 hv.2
                obtain ⟨w3, hw3⟩ := c22 hw1.cons.choose_spec.2.2.2.1 (show a3e a9p = true by kernel_rfl) hu3
                refine ⟨_, hw3, fun m hm => ?_⟩
                obtain ⟨m, rfl, hm2⟩ := hsucc hm
                show k7 (rgE m) r = _
                unfold k7
                simp only [b3b hr, hk2, Option.bind_some, Bool.false_eq_true, if_false, if_true, t1, t2, t3, w1, w2, w3]
                rfl
            . cases h
          | false =>
          rw [hm3, cond_false] at h
          rw [hm3] at t3
          have i1 := e13 hr (show a3e b0a = true by kernel_rfl)
          have i2 := e13 hr (show a3e b4t = true by kernel_rfl)
          have i3 := e13 hr (show a3e b3m = true by kernel_rfl)
          cases hm4 : isT (.w x) b0a with
          | true => rw [hm4] at h; cases h
          | false =>
          rw [hm4, cond_false] at h
          rw [hm4] at i1
          cases hm5 : isT (.w x) b4t with
          | true =>
            rw [hm5, cond_true] at h
            rw [hm5] at i2
            obtain ⟨r1, hr1, e1⟩ := ih _ _ _ _ h (by decide) hr
            refine ⟨r1, hr1, fun m hm => ?_⟩
            obtain ⟨m, rfl, hm2⟩ := hsucc hm
            show k7 (rgE m) r = _
            unfold k7
            have e1 : (rgE m).f_pensionref5_reader_call r 19 = _ := e1 m hm2
            simp only [b3b hr, hk2, Option.bind_some, Bool.false_eq_true, if_false, if_true, t1, t2, t3, i1, i2, e1]
          | false =>
          rw [hm5, cond_false] at h
          rw [hm5] at i2
          cases hm6 : isT (.w x) b3m with
          | true =>
            rw [hm6, cond_true] at h
            rw [hm6] at i3
            obtain ⟨r1, hr1, e1⟩ := ih _ _ _ _ h (by decide) hr
            refine ⟨r1, hr1, fun m hm => ?_⟩
            obtain ⟨m, rfl, hm2⟩ := hsucc hm
            show k7 (rgE m) r = _
            unfold k7
            have e1 : (rgE m).f_pensionref5_reader_call r 20 = _ := e1 m hm2
            simp only [b3b hr, hk2, Option.bind_some, Bool.false_eq_true, if_false, if_true, t1, t2, t3, i1, i2, i3, e1]
          | false =>
          rw [hm6, cond_false] at h
          rw [hm6] at i3
          cases hn : e6h x with
          | false => rw [hn] at h; cases h
          | true =>
            rw [hn, cond_true] at h
            obtain rfl := Option.some.inj h
            have n1 := d1z hr (d1h hn)
            refine ⟨_, hadv.1, fun m hm => ?_⟩
            obtain ⟨m, rfl, hm2⟩ := hsucc hm
            show k7 (rgE m) r = _
            unfold k7
            simp only [b3b hr, hk2, Option.bind_some, Bool.false_eq_true, if_false, if_true, t1, t2, t3, i1, i2, i3, n1]
            rfl
      | C op =>
        have hadv := hr.cons.choose_spec.2.2.2
        have hav : (⟨r.l, i64 (r.at_ + 1), r.end_, r.bad⟩ : pensionref5_reader) = adv r := by rw [hadv.2]; rfl
        simp only [pX] at h
        split at h
        . rename_i hop
          obtain ⟨u1, h1, h⟩ := Option.bind_eq_some_iff.1 h
          obtain ⟨a, h2, h⟩ := Option.bind_eq_some_iff.1 h
          obtain ⟨r2, h3, h⟩ := Option.bind_eq_some_iff.1 h
          obtain ⟨b, h4, h⟩ := Option.bind_eq_some_iff.1 h
          obtain ⟨u2, h5, h⟩ := Option.bind_eq_some_iff.1 h
          obtain rfl := Option.some.inj h
          obtain ⟨w1, hw1⟩ := c22 hadv.1 (show a3e a7w = true by kernel_rfl) h1
          obtain ⟨q1, hq1, e1⟩ := ih _ _ _ _ h2 (by decide) hw1
          obtain ⟨w2, hw2⟩ := c22 hq1 (show a3e c09 = true by kernel_rfl) h3
          obtain ⟨q2, hq2, e2⟩ := ih _ _ _ _ h4 (by decide) hw2
          obtain ⟨w3, hw3⟩ := c22 hq2 (show a3e a9p = true by kernel_rfl) h5
          refine ⟨_, hw3, fun m hm => ?_⟩
          obtain ⟨m, rfl, hm2⟩ := hsucc hm
          show a2o (rgE m) r op = _
          unfold a2o
          have e1 : (rgE m).f_pensionref5_reader_expr _ 0 = _ := e1 m hm2
          have e2 : (rgE m).f_pensionref5_reader_expr _ 0 = _ := e2 m hm2
          simp only [hav, w1, Option.bind_some, e1, hop, BEq.rfl, if_true, w2, e2, w3]
          rfl
        . cases h
theorem b6p {k : Nat} (hk : k <= 1000) {ts : List Tk} {out : AE × List Tk} {r : pensionref5_reader} (h : pX k (.E 0) ts = some out) (hr : RdrA r ts) : ∃ r', RdrA r' out.2 /\ a1i r 0 = some (out.1.e, r') := by
  obtain ⟨r', h1, h2⟩ := e4f k hk _ _ _ r h (by decide) hr
  exact ⟨r', h1, h2 FU (e4l hk)⟩
end Go.PL
namespace Go.PL
open Go Go.SX
def ofW (x : ByteArray) (what : Int) : Option Int := (a7p x).bind fun k => (a59 x).bind fun b => (a7r x).bind fun m => l8 [k, b, m] (i64 (what - 1))
theorem e0a {r : pensionref5_reader} {ts : List Tk} {x : ByteArray} {what n : Int} (h : RdrA r (.w x :: ts)) (hw : ofW x what = some n) (hn : 0 < n) : a0e r what = some (n, adv r) := by
  obtain ⟨y, hy, hk, hlt, _, hi⟩ := h.cons
  have hx : y.Text = x := hk.2
  unfold ofW at hw
  obtain ⟨k, h1, hw⟩ := Option.bind_eq_some_iff.1 hw
  obtain ⟨b, h2, hw⟩ := Option.bind_eq_some_iff.1 hw
  obtain ⟨m, h3, hw⟩ := Option.bind_eq_some_iff.1 hw
  unfold a0e
  rw [b3b h, Option.bind_some]
  simp only [kdT, hy, Option.bind_some, hx, h1, h2, h3, hw, hi, decide_eq_true hn, gt_iff_lt, BEq.rfl, if_true]
  rfl
inductive Cl where
  | credit (k l : Int)
  | index (y : Int) (f : Fraction)
  | lett (x : ByteArray) (a : AE)
  | grant (b : Int) (i p : AE)
  | reduce (b : Int) (a : AE)
abbrev Acc := List Credit × List Index × List Let × List Grant × List Reduce
def Cl.app : Cl -> Acc -> Acc
  | .credit k l, A => (A.1 ++ [⟨k, l⟩], A.2)
  | .index y f, A => (A.1, A.2.1 ++ [⟨y, f⟩], A.2.2)
  | .lett x a, A => (A.1, A.2.1, A.2.2.1 ++ [⟨x, a.e⟩], A.2.2.2)
  | .grant b i p, A => (A.1, A.2.1, A.2.2.1, A.2.2.2.1 ++ [⟨b, i.e, p.e⟩], A.2.2.2.2)
  | .reduce b a, A => (A.1, A.2.1, A.2.2.1, A.2.2.2.1, A.2.2.2.2 ++ [⟨b, a.e⟩])
def Acc.len (A : Acc) : Nat := A.1.length + A.2.1.length + A.2.2.1.length + A.2.2.2.1.length + A.2.2.2.2.length
inductive ClR : List Tk -> Cl -> List Tk -> Prop
  | credit0 {x : ByteArray} {n : Int} {ts : List Tk} : ofW x 1 = some n -> 0 < n -> ClR (.w a1w :: .w x :: .s a07 :: ts) (.credit n 0) ts
  | credit {x : ByteArray} {n v : Int} {ts : List Tk} : ofW x 1 = some n -> 0 < n -> 1 <= v -> v <= 73049 -> ClR (.w a1w :: .w x :: .w a7j :: .n ⟨v, 1⟩ 2 :: .s a07 :: ts) (.credit n v) ts
  | index {y : Int} {f : Fraction} {ts : List Tk} : 1900 <= y -> y <= 2099 -> 0 < f.Num -> f.Den ≠ 0 -> ClR (.w a4g :: .n ⟨y, 1⟩ 2 :: .n f 2 :: .s a07 :: ts) (.index y f) ts
  | lett {x : ByteArray} {a : AE} {us ts : List Tk} : e6h x = true -> pX 60 (.E 0) us = some (a, .s a07 :: ts) -> ClR (.w a9m :: .w x :: .s b5y :: us) (.lett x a) ts
  | grant {x : ByteArray} {n : Int} {a b : AE} {us vs ts : List Tk} : ofW x 2 = some n -> 0 < n -> pX 60 (.E 0) us = some (a, .w b0s :: vs) -> pX 60 (.E 0) vs = some (b, .s a07 :: ts) -> ClR (.w a35 :: .w x :: .w a9b :: us) (.grant n a b) ts
  | reduce {x : ByteArray} {n : Int} {a : AE} {us ts : List Tk} : ofW x 2 = some n -> 0 < n -> pX 60 (.E 0) us = some (a, .s a07 :: ts) -> ClR (.w a3n :: .w x :: .w b9x :: us) (.reduce n a) ts
theorem b44 : a3e a1w = true := by kernel_rfl
theorem c1k : a3e a4g = true := by kernel_rfl
theorem d6l : a3e a9m = true := by kernel_rfl
theorem d2s : a3e a35 = true := by kernel_rfl
theorem e09 : a3e a3n = true := by kernel_rfl
theorem d2u : a3e a7j = true := by kernel_rfl
theorem b8a : a3e a07 = true := by kernel_rfl
theorem f6q : a3e b5y = true := by kernel_rfl
theorem f6o : a3e a9b = true := by kernel_rfl
theorem f3q : a3e b0s = true := by kernel_rfl
theorem f7x : a3e b9x = true := by kernel_rfl
theorem c1i : a3e a2i = true := by kernel_rfl
theorem d2b (x : ByteArray) : isT (.w x) x = true := by show (x.toList == x.toList) = true; exact BEq.rfl
theorem c31 (x : ByteArray) : isT (.s x) x = true := by show (x.toList == x.toList) = true; exact BEq.rfl
theorem a5c {r : pensionref5_reader} {t : Tk} {ts : List Tk} (h : RdrA r (t :: ts)) : RdrA (adv r) ts := h.cons.choose_spec.2.2.2.1
section
variable {r : pensionref5_reader} {t : Tk} {ts us : List Tk} {s : ByteArray}
theorem c3a (h : RdrA r (.w s :: ts)) (hs : a3e s = true) : d8 r s = some (true, adv r) := by rw [b29 h hs, d2b]; rfl
theorem b45 (h : RdrA r (t :: ts)) (hs : a3e s = true) (hn : isT t s = false) : d8 r s = some (false, r) := by rw [b29 h hs, hn]; rfl
theorem c2o (h : RdrA r (.w s :: ts)) (hs : a3e s = true) : c6 r s = some (adv r) := d18 h hs (d2b s)
theorem b79 (h : RdrA r (.s s :: ts)) (hs : a3e s = true) : c6 r s = some (adv r) := d18 h hs (c31 s)
theorem b13 {α : Type} {k : Nat} {l : List α} {x : α} (h : l.length <= 1000) (hk : k <= 1000) : a8w k l [x] = some (l ++ [x]) := by
  refine a9f ?_
  have : (l.length + [x].length) * k <= 1001 * 1000 := Nat.mul_le_mul (by simp; omega) hk
  omega
end
theorem d73 {ts ts' : List Tk} {c : Cl} (h : ClR ts c ts') {r : pensionref5_reader} (hr : RdrA r ts) (v : Version) (A : Acc) (hA : A.len <= 1000) :
    ∃ r', RdrA r' ts' /\ a2l r v A.1 A.2.1 A.2.2.1 A.2.2.2.1 A.2.2.2.2 = some (r', ⟨v.From, v.Rounding, [], [], [], [], []⟩, c.app A) := by
  obtain ⟨cs, is, ls, gs, rs⟩ := A
  have hA : cs.length + is.length + ls.length + gs.length + rs.length <= 1000 := hA
  unfold a2l
  cases h with
  | credit0 h1 h2 =>
    have a1 := a5c hr; have a2 := a5c a1; have a3 := a5c a2
    refine ⟨_, a3, ?_⟩
    simp only [c3a hr b44, Option.bind_some, if_true, e0a a1 h1 h2, b45 a2 d2u (show isT (.s a07) a7j = false by kernel_rfl), Bool.false_eq_true, if_false, joinC, a1d, b13 (show cs.length <= 1000 by omega) (show 16 <= 1000 by decide), b79 a2 b8a]
    rfl
  | credit h1 h2 h3 h4 =>
    have a1 := a5c hr; have a2 := a5c a1; have a3 := a5c a2; have a4 := a5c a3; have a5 := a5c a4
    refine ⟨_, a5, ?_⟩
    simp only [c3a hr b44, Option.bind_some, if_true, e0a a1 h1 h2, c3a a2 d2u, b98 a3 h3 h4, joinC, a1d, b13 (show cs.length <= 1000 by omega) (show 16 <= 1000 by decide), b79 a4 b8a]
    rfl
  | @index y f ts h1 h2 h3 h4 =>
    have a1 := a5c hr; have a2 := a5c a1; have a3 := a5c a2; have a4 := a5c a3
    refine ⟨_, a4, ?_⟩
    obtain ⟨z, hz, hk, _, _, hi⟩ := a2.cons
    have hi2 : (⟨(adv (adv r)).l, i64 ((adv (adv r)).at_ + 1), (adv (adv r)).end_, (adv (adv r)).bad⟩ : pensionref5_reader) = adv (adv (adv r)) := by rw [hi]; rfl
    have h4' : (f.Den == 0) = false := by simpa using h4
    simp only [b45 hr b44 (show isT (.w a4g) a1w = false by kernel_rfl), c3a hr c1k, Option.bind_some, Bool.false_eq_true, if_true, if_false, b98 a1 h1 h2, b3b a2, kdT, BEq.rfl, hz, hk.2.1, decide_eq_true h3, gt_iff_lt, hi2, joinC, a1e, h4', a3g, b13 (show is.length <= 1000 by omega) (show 24 <= 1000 by decide), b79 a3 b8a]
    rfl
  | lett h1 h2 =>
    have a1 := a5c hr; have a2 := a5c a1; have a3 := a5c a2
    obtain ⟨q, hq, e⟩ := b6p (by decide) h2 a3
    have a4 := a5c hq
    refine ⟨_, a4, ?_⟩
    simp only [b45 hr b44 (show isT (.w a9m) a1w = false by kernel_rfl), b45 hr c1k (show isT (.w a9m) a4g = false by kernel_rfl), c3a hr d6l, Option.bind_some, Bool.false_eq_true, if_true, if_false, d1z a1 (d1h h1), b79 a2 f6q, e, b13 (show ls.length <= 1000 by omega) (show 88 <= 1000 by decide), b79 hq b8a]
    rfl
  | grant h1 h2 h3 h4 =>
    have a1 := a5c hr; have a2 := a5c a1; have a3 := a5c a2
    obtain ⟨q, hq, e⟩ := b6p (by decide) h3 a3
    have a4 := a5c hq
    obtain ⟨q2, hq2, e2⟩ := b6p (by decide) h4 a4
    have a5 := a5c hq2
    refine ⟨_, a5, ?_⟩
    simp only [b45 hr b44 (show isT (.w a35) a1w = false by kernel_rfl), b45 hr c1k (show isT (.w a35) a4g = false by kernel_rfl), b45 hr d6l (show isT (.w a35) a9m = false by kernel_rfl), c3a hr d2s, Option.bind_some, Bool.false_eq_true, if_true, if_false, e0a a1 h1 h2, c2o a2 f6o, e, c2o hq f3q, e2, b13 (show gs.length <= 1000 by omega) (show 152 <= 1000 by decide), b79 hq2 b8a]
    rfl
  | reduce h1 h2 h3 =>
    have a1 := a5c hr; have a2 := a5c a1; have a3 := a5c a2
    obtain ⟨q, hq, e⟩ := b6p (by decide) h3 a3
    have a4 := a5c hq
    refine ⟨_, a4, ?_⟩
    simp only [b45 hr b44 (show isT (.w a3n) a1w = false by kernel_rfl), b45 hr c1k (show isT (.w a3n) a4g = false by kernel_rfl), b45 hr d6l (show isT (.w a3n) a9m = false by kernel_rfl), b45 hr d2s (show isT (.w a3n) a35 = false by kernel_rfl), c3a hr e09, Option.bind_some, Bool.false_eq_true, if_true, if_false, e0a a1 h1 h2, c2o a2 f7x, e, b13 (show rs.length <= 1000 by omega) (show 80 <= 1000 by decide), b79 hq b8a]
    rfl
end Go.PL
namespace Go.PL
open Go Go.SX
inductive ClsR : List Tk -> List Cl -> List Tk -> Prop
  | nil {ts : List Tk} : ClsR (.s a2i :: ts) [] ts
  | cons {ts us vs : List Tk} {c : Cl} {cs : List Cl} : ClR ts c us -> ClsR us cs vs -> ClsR ts (c :: cs) vs
theorem ClR.head {ts us : List Tk} {c : Cl} (h : ClR ts c us) : ∃ t ts1, ts = t :: ts1 /\ isT t a2i = false := by
  cases h <;> exact ⟨_, _, rfl, by kernel_rfl⟩
theorem Cl.app_len (c : Cl) (A : Acc) : (c.app A).len = A.len + 1 := by
  cases c <;> simp only [Cl.app, Acc.len, List.length_append, List.length_cons, List.length_nil] <;> omega
theorem d64 {ts ts' : List Tk} {cs : List Cl} (h : ClsR ts cs ts') : ∀ (r : pensionref5_reader), RdrA r ts -> ∀ (A : Acc) (v : Version), A.len + cs.length <= 1000 ->
    ∃ r', RdrA r' ts' /\ ∀ (k : Nat) j1 j2 j3 j4 j5 jv, cs.length < k -> d9 k a08 (r, j1, j2, j3, j4, j5, jv, A.1, A.2.1, A.2.2.1, A.2.2.2.1, A.2.2.2.2, v) =
      some (⟨v.From, v.Rounding, (cs.foldl (fun A c => c.app A) A).1, (cs.foldl (fun A c => c.app A) A).2.1, (cs.foldl (fun A c => c.app A) A).2.2.1, (cs.foldl (fun A c => c.app A) A).2.2.2.1, (cs.foldl (fun A c => c.app A) A).2.2.2.2⟩, r') := by
  induction h with
  | nil =>
    intro r hr A v _
    refine ⟨_, a5c hr, fun k j1 j2 j3 j4 j5 jv hk => ?_⟩
    obtain ⟨k, rfl⟩ : ∃ m, k = m + 1 := ⟨k - 1, by omega⟩
    rw [j8]
    unfold a08
    simp only [hr.bad, Bool.not_false, if_true, b29 hr c1i, c31, Option.bind_some, Bool.not_true, Bool.false_eq_true, if_false]
    rfl
  | cons hc hcs ih =>
    rename_i ts0 us vs c cs
    intro r hr A v hA
    have hA : A.len + (cs.length + 1) <= 1000 := hA
    obtain ⟨r1, hr1, e1⟩ := d73 hc hr (⟨v.From, v.Rounding, [], [], [], [], []⟩ : Version) A (by omega)
    obtain ⟨r2, hr2, e2⟩ := ih r1 hr1 (c.app A) ⟨v.From, v.Rounding, [], [], [], [], []⟩ (by rw [Cl.app_len]; omega)
    refine ⟨r2, hr2, fun k j1 j2 j3 j4 j5 jv hk => ?_⟩
    have hk : cs.length + 1 < k := hk
    obtain ⟨k, rfl⟩ : ∃ m, k = m + 1 := ⟨k - 1, by omega⟩
    obtain ⟨t, ts1, rfl, ht⟩ := hc.head
    rw [j8]
    generalize hLP : d9 k a08 = LP
    unfold a08
    simp only [hr.bad, Bool.not_false, if_true, b45 hr c1i ht, Option.bind_some, e1]
    rw [<- hLP]
    exact e2 k _ _ _ _ _ _ (by omega)
def e64 : Acc := ([], [], [], [], [])
def Cls.acc (cs : List Cl) : Acc := cs.foldl (fun A c => c.app A) e64
def f1b (day m u : Int) (cs : List Cl) : Version := ⟨day, ⟨m, u⟩, (Cls.acc cs).1, (Cls.acc cs).2.1, (Cls.acc cs).2.2.1, (Cls.acc cs).2.2.2.1, (Cls.acc cs).2.2.2.2⟩
theorem e8o : a3e b2t = true := by kernel_rfl
theorem d9d : a3e b2b = true := by kernel_rfl
theorem e2g : a3e b0g = true := by kernel_rfl
theorem d67 : a3e a33 = true := by kernel_rfl
theorem d14 : a3e a23 = true := by kernel_rfl
structure VerR (ts : List Tk) (v : Version) (ts' : List Tk) : Prop where
  ex : ∃ (day m u : Int) (x : ByteArray) (cs : List Cl) (us : List Tk), ts = .w b2t :: .d day :: .s b2b :: .w b0g :: .w x :: .n ⟨u, 1⟩ 2 :: .s a07 :: us /\ ofW x 3 = some m /\ 0 < m /\ 1 <= u /\ u <= 100000 /\ ClsR us cs ts' /\ cs.length <= 900 /\ v = f1b day m u cs
theorem d51 {ts ts' : List Tk} {v : Version} (h : VerR ts v ts') {r : pensionref5_reader} (hr : RdrA r ts) : ∃ r', RdrA r' ts' /\ a26 r = some (v, r') := by
  obtain ⟨day, m, u, x, cs, us, rfl, h1, h2, h3, h4, h5, h6, rfl⟩ := h.ex
  have a1 := a5c hr; have a2 := a5c a1; have a3 := a5c a2; have a4 := a5c a3; have a5 := a5c a4; have a6 := a5c a5; have a7 := a5c a6
  obtain ⟨r', hr', e⟩ := d64 h5 _ a7 e64 ⟨day, ⟨m, u⟩, [], [], [], [], []⟩ (by show 0 + 0 + 0 + 0 + 0 + cs.length <= 1000; omega)
  refine ⟨r', hr', ?_⟩
  obtain ⟨z, hz, hk, _, _, hi⟩ := a1.cons
  have hi2 : (⟨(adv r).l, i64 ((adv r).at_ + 1), (adv r).end_, (adv r).bad⟩ : pensionref5_reader) = adv (adv r) := by rw [hi]; rfl
  unfold a26
  simp only [c2o hr e8o, Option.bind_some, b3b a1, kdT, BEq.rfl, if_true, hz, hk.2.1, hi2, joinC, a30, b79 a2 d9d, c2o a3 e2g, e0a a4 h1 h2, b98 a5 h3 h4, b79 a6 b8a]
  exact e FU _ _ _ _ _ _ (by have := e4l (k := 1000) (by decide); omega)
inductive VersR : List Tk -> List Version -> Prop
  | nil : VersR [.s a2i] []
  | cons {ts us : List Tk} {v : Version} {vs : List Version} : VerR ts v us -> VersR us vs -> VersR ts (v :: vs)
theorem VerR.head {ts us : List Tk} {v : Version} (h : VerR ts v us) : ∃ t ts1, ts = t :: ts1 /\ isT t a2i = false := by
  obtain ⟨day, m, u, x, cs, vs, rfl, _⟩ := h.ex
  exact ⟨_, _, rfl, by kernel_rfl⟩
theorem d4d {nm : ByteArray} {cur : Int} : ∀ (vs : List Version) (ts : List Tk) (ws : List Version) (r : pensionref5_reader), VersR ts vs -> RdrA r ts -> ws.length + vs.length <= 1000 -> a3o ⟨nm, cur, ws ++ vs⟩ = some true ->
    ∀ (k : Nat) jv js b st, (b = true -> vs ≠ []) -> st.Name = nm -> st.Currency = cur -> vs.length < k -> d9 k a3a (jv, js, r, ws, st, b) = some (⟨nm, cur, ws ++ vs⟩, 0, 0) := by
  intro vs
  induction vs with
  | nil =>
    intro ts ws r h hr _ hv k jv js b st hb hn hc hk
    cases h
    obtain ⟨k, rfl⟩ : ∃ m, k = m + 1 := ⟨k - 1, by omega⟩
    have hb : b = false := by cases b with | false => rfl | true => exact absurd rfl (hb rfl)
    subst hb
    rw [j8]
    unfold a3a
    have a1 := a5c hr
    have hend : ¬ (adv r).at_ < ((adv r).l.length : Int) := by
      have := a1.all
      intro hlt
      have h2 := a1.nn
      cases hd : (adv r).l.drop (adv r).at_.toNat with
      | nil =>
        have := congrArg List.length hd
        simp at this; omega
      | cons x y => rw [hd] at this; exact this
    simp only [List.append_nil] at hv ⊢
    simp only [hr.bad, Bool.not_false, if_true, b29 hr c1i, c31, Option.bind_some, Bool.not_true, Bool.false_eq_true, if_false, joinC, a7b, a1.bad, decide_eq_false hend, hn, hc, hv]
  | cons v vs ih =>
    intro ts ws r h hr hl hv k jv js b st hb hn hc hk
    have hl : ws.length + (vs.length + 1) <= 1000 := hl
    have hk : vs.length + 1 < k := hk
    cases h
    rename_i us hvr hvs
    obtain ⟨k, rfl⟩ : ∃ m, k = m + 1 := ⟨k - 1, by omega⟩
    obtain ⟨r1, hr1, e1⟩ := d51 hvr hr
    obtain ⟨t, ts1, rfl, ht⟩ := hvr.head
    have ih2 := ih us (ws ++ [v]) r1 hvs hr1 (by simp; omega) (by rw [List.append_assoc]; exact hv) k
    rw [j8]
    generalize hLP : d9 k a3a = LP at ih2 ⊢
    have ih3 : ∀ jv js st, st.Name = nm -> st.Currency = cur -> LP (jv, js, r1, ws ++ [v], st, false) = some (⟨nm, cur, ws ++ v :: vs⟩, 0, 0) := fun jv js st h1 h2 => by
      have := ih2 jv js false st (fun h => by cases h) h1 h2 (by omega)
      rw [List.append_assoc] at this
      exact this
    unfold a3a
    cases b with
    | true =>
      simp only [hr.bad, Bool.not_false, if_true, joinC, a4q, e1, Option.bind_some, b13 (show ws.length <= 1000 by omega) (show 144 <= 1000 by decide)]
      exact ih3 _ _ _ hn hc
    | false =>
      simp only [hr.bad, Bool.not_false, if_true, b45 hr c1i ht, Bool.false_eq_true, if_false, joinC, a4q, e1, Option.bind_some, b13 (show ws.length <= 1000 by omega) (show 144 <= 1000 by decide)]
      exact ih3 _ _ _ hn hc
theorem e2t {s nm : ByteArray} {cur : Int} {toks : List Token} {us : List Tk} {vs : List Version} (hall : a6e s = some (toks, 0, 0)) (hl : toks.length <= 8000) (hrel : q9 TkR toks (.w a33 :: .w nm :: .w a23 :: .n ⟨cur, 1⟩ 2 :: .s b2b :: us))
    (hn : e6h nm = true) (h1 : 1 <= cur) (h2 : cur <= 999) (hvs : VersR us vs) (hne : vs ≠ []) (hlen : vs.length <= 900) (hv : a3o ⟨nm, cur, vs⟩ = some true) : a2d s = some (⟨nm, cur, vs⟩, 0, 0) := by
  unfold a2d a9r
  rw [hall, Option.bind_some]
  have hr : RdrA ⟨toks, 0, (s.size : Int), false⟩ (.w a33 :: .w nm :: .w a23 :: .n ⟨cur, 1⟩ 2 :: .s b2b :: us) := ⟨rfl, Int.le_refl _, hl, hrel⟩
  have a1 := a5c hr; have a2 := a5c a1; have a3 := a5c a2; have a4 := a5c a3; have a5 := a5c a4
  simp only [show ((0 : Int) != 0) = false from rfl, Bool.false_eq_true, if_false, Option.bind_some, optC, c2o hr d67, d1z a1 (d1h hn), c2o a2 d14, b98 a3 h1 h2, b79 a4 d9d]
  exact d4d vs us [] _ hvs a5 (by simp; omega) hv FU _ _ true _ (fun _ => hne) rfl rfl (by have := e4l (k := 1000) (by decide); omega)
end Go.PL
namespace Go.PL
open Go Go.SX
theorem d7g : ∃ m, FU = m + 1 + 1 := ⟨FU - 2, by
  have : 1000000 <= FU := by unfold FU; decide
  omega⟩
theorem a2s : 100000 <= FU := by unfold FU; decide
def rmn (s : ByteArray) (p : Nat) : List UInt8 := s.data.toList.drop p
theorem b9t (s : ByteArray) : s.size = s.data.toList.length := by rw [Array.length_toList]; rfl
section
variable {s : ByteArray} {p : Nat} {c : UInt8} {rest w : List UInt8}
theorem c67 (h : rmn s p = c :: rest) : p < s.size := by
  have := congrArg List.length h
  unfold rmn at this
  rw [b9t]; simp at this ⊢; omega
theorem d2d : rmn s p = [] ↔ s.size <= p := by unfold rmn; rw [List.drop_eq_nil_iff, b9t]
theorem c8r {a : List UInt8} (h : rmn s p = a ++ rest) : rmn s (p + a.length) = rest := by
  unfold rmn at *
  rw [<- List.drop_drop, h, List.drop_left]
theorem c3d (h : rmn s p = c :: rest) : rmn s (p + 1) = rest := c8r (a := [c]) h
theorem c0e {a : List UInt8} (h : rmn s p = a ++ rest) (hp : p <= s.size) : p + a.length <= s.size := by
  have := congrArg List.length h
  unfold rmn at this
  rw [b9t] at *; simp at this hp ⊢; omega
theorem c03 (h : rmn s p = c :: rest) : a8y s (p : Int) = some (c.toNat : Int) := by
  unfold a8y
  rw [if_pos (by omega)]
  have hlt := c67 h
  have hg : s[p]? = some c := by
    rw [getElem?_pos s p hlt]
    have h2 : s.data.toList[p]? = some c := by
      have := congrArg List.head? h
      unfold rmn at this
      simpa [List.head?_drop] using this
    rw [List.getElem?_eq_some_iff] at h2
    obtain ⟨_, h3⟩ := h2
    rw [<- h3]; rfl
  rw [Int.toNat_natCast, hg]; rfl
theorem b7p {a : List UInt8} (h : rmn s p = a ++ rest) (hp : p <= s.size) : b5f s (p : Int) ((p : Int) + (a.length : Int)) = some ⟨a.toArray⟩ := by
  unfold b5f
  have := c0e h hp
  rw [if_pos ⟨by omega, by omega, by omega⟩]
  congr 1
  apply ByteArray.ext
  apply Array.ext'
  rw [ByteArray.data_extract, Array.toList_extract, List.extract_eq_take_drop, Int.toNat_natCast, show ((p : Int) + (a.length : Int)).toNat = p + a.length by omega]
  unfold rmn at h
  rw [h, show p + a.length - p = a.length by omega, List.take_left]
end
def iv (c : UInt8) : Int := (c.toNat : Int)
def c7y (b : Bool) (c : UInt8) : Bool := d4s (iv c) || c6e (iv c) || (iv c == 95) || (b && (iv c == 46))
theorem f2v {s : ByteArray} (hs : s.size <= 8000) (p : Nat) (b : Bool) (rest : List UInt8) (hr : ∀ c r, rest = c :: r -> c7y b c = false) :
    ∀ (w : List UInt8) (n k : Nat), rmn s (p + n) = w ++ rest -> p + n <= s.size -> (∀ c ∈ w, c7y b c = true) -> w.length < k -> d9 k (a4d (p : Int) s b) (n : Int) = some ((n + w.length : Nat) : Int) := by
  have one : ∀ (n : Nat) (c : UInt8) (r : List UInt8) (rec : Int -> Option Int), rmn s (p + n) = c :: r -> a4d (p : Int) s b rec (n : Int) = if c7y b c = true then rec ((n + 1 : Nat) : Int) else some (n : Int) := by
    intro n c r rec h
    have hlt := c67 h
    have hi : i64 ((p : Int) + (n : Int)) = ((p + n : Nat) : Int) := by rw [i8 (by omega) (by omega)]; omega
    unfold a4d
    rw [hi]
    have h3 : a8y s ((p + n : Nat) : Int) = some (iv c) := c03 h
    rw [if_pos (by simp; omega)]
    simp only [h3, Option.bind_some, c9u, c78, a99, a4o]
    rw [show i64 ((n : Int) + 1) = ((n + 1 : Nat) : Int) by rw [b48 (by omega) (by omega)]; omega]
    rfl
  intro w
  induction w with
  | nil =>
    intro n k h hp _ hk
    obtain ⟨k, rfl⟩ : ∃ m, k = m + 1 := ⟨k - 1, by simp at hk; omega⟩
    rw [j8]
    cases rest with
    | nil =>
      have h0 := d2d.1 h
      unfold a4d
      have hi : i64 ((p : Int) + (n : Int)) = ((p + n : Nat) : Int) := by rw [i8 (by omega) (by omega)]; omega
      rw [hi, if_neg (by simp; omega)]
      rfl
    | cons c r => rw [one n c r _ h, if_neg (by rw [hr c r rfl]; decide)]; rfl
  | cons c w ih =>
    intro n k h hp hw hk
    have hk : w.length + 1 < k := hk
    obtain ⟨k, rfl⟩ : ∃ m, k = m + 1 := ⟨k - 1, by omega⟩
    have hlt := c67 h
    rw [j8, one n c (w ++ rest) _ h, if_pos (hw c (by simp)), ih (n + 1) k (c3d h) (by omega) (fun c hc => hw c (List.mem_cons_of_mem _ hc)) (by omega)]
    congr 2
    simp; omega
theorem e6f {s : ByteArray} (hs : s.size <= 8000) {p : Nat} {b : Bool} {w rest : List UInt8} (h : rmn s p = w ++ rest) (hp : p <= s.size) (hr : ∀ c r, rest = c :: r -> c7y b c = false) (hw : ∀ c ∈ w, c7y b c = true) : a3r s (p : Int) b = some (w.length : Int) := by
  have hl := c0e h hp
  have := f2v hs p b rest hr w 0 FU h (by omega) hw (by have := a2s; omega)
  unfold a3r
  simpa using this
def blk (b : Bool) : List UInt8 := bif b then [32] else []
def d5j (c : UInt8) : Bool := !(iv c == 10) && !(iv c == 35) && (iv c != 9) && (iv c != 13) && (iv c != 32)
theorem d94 {s : ByteArray} (hs : s.size <= 8000) {p : Nat} {b : Bool} {w : List UInt8} (h : rmn s p = blk b ++ w) (hp : p <= s.size) (hw : ∀ c r, w = c :: r -> d5j c = true) : a5l s (p : Int) = some ((p + (blk b).length : Nat) : Int) := by
  have one : ∀ (q k : Nat), rmn s q = w -> q <= s.size -> d9 (k + 1) (a3x s) ((q : Int), false) = some (q : Int) := by
    intro q k h hq
    rw [j8]
    unfold a3x
    cases w with
    | nil =>
      have := d2d.1 h
      rw [if_neg (by simp; omega)]
    | cons c r =>
      have hlt := c67 h
      have h3 : a8y s (q : Int) = some (iv c) := c03 h
      have hc := hw c r rfl
      unfold d5j at hc
      simp only [Bool.and_eq_true, Bool.not_eq_true'] at hc
      obtain ⟨⟨⟨⟨h1, h2⟩, h4⟩, h5⟩, h6⟩ := hc
      rw [if_pos (by simp; omega)]
      simp only [h3, Option.bind_some, h1, h2, h4, h5, h6, Bool.false_eq_true, if_false, Bool.not_false, if_true]
  unfold a5l
  obtain ⟨m, hm⟩ := d7g
  rw [hm]
  cases b with
  | false => exact one p (m + 1) h hp
  | true =>
    have h : rmn s p = 32 :: w := h
    have hlt := c67 h
    have h3 : a8y s (p : Int) = some (32 : Int) := c03 h
    rw [j8]
    generalize hLP : d9 (m + 1) (a3x s) = LP
    unfold a3x
    rw [if_pos (by simp; omega)]
    simp only [h3, Option.bind_some, show ((32 : Int) == 10) = false from rfl, show ((32 : Int) == 35) = false from rfl, show ((32 : Int) != 9) = true from rfl, show ((32 : Int) != 13) = true from rfl, show ((32 : Int) != 32) = false from rfl, Bool.false_eq_true, if_false, Bool.not_false, if_true]
    rw [b48 (by omega) (by omega), <- hLP, show (p : Int) + 1 = ((p + 1 : Nat) : Int) by omega]
    exact one (p + 1) m (c3d h) (by omega)
end Go.PL
namespace Go.PL
open Go Go.SX
def b84 (p : UInt8 -> Bool) (rest : List UInt8) : Prop := ∀ c r, rest = c :: r -> p c = false
def d8k (c : UInt8) : Bool := [60, 62, 61, 43, 45, 42, 47, 40, 41, 123, 125, 44, 59].any fun n => iv c == n
inductive LxOK : Tk -> List UInt8 -> List UInt8 -> Prop
  | w {c : UInt8} {w rest : List UInt8} : d4s (iv c) = true -> (∀ x ∈ c :: w, c7y false x = true) -> (c :: w).length <= 12 -> b84 (c7y false) rest -> LxOK (.w ⟨(c :: w).toArray⟩) (c :: w) rest
  | n {c : UInt8} {w rest : List UInt8} {v : Fraction} {d : Int} {x y : ByteArray} : c6e (iv c) = true -> d4s (iv c) = false -> (∀ x ∈ c :: w, c7y true x = true) -> b84 (c7y true) rest -> a0a ⟨(c :: w).toArray⟩ = some (x, y, d, true) -> s6 ⟨(c :: w).toArray⟩ = some (v, d, true) -> LxOK (.n v d) (c :: w) rest
  | d {w rest : List UInt8} {day : Int} : w.length = 10 -> a1x ⟨w.toArray⟩ = some (day, true) -> LxOK (.d day) (64 :: w) rest
  | s1 {c : UInt8} {rest : List UInt8} : d8k c = true -> (((iv c == 60) = false /\ (iv c == 62) = false) \/ b84 (fun c => iv c == 61 || iv c == 62) rest) -> LxOK (.s ⟨#[c]⟩) [c] rest
  | s2 {c c2 : UInt8} {rest : List UInt8} : (c, c2) = (60, 61) \/ (c, c2) = (62, 61) \/ (c, c2) = (60, 62) -> LxOK (.s ⟨#[c, c2]⟩) [c, c2] rest
theorem e1h {c : UInt8} {w : List UInt8} : a3e ⟨(c :: w).toArray⟩ = (!(48 <= c.toNat && c.toNat <= 57) && !c.toNat == 64) := by
  unfold a3e
  rw [ByteArray.toList_eq]
theorem d9f {s : ByteArray} (hs : s.size <= 8000) {q : Nat} {w rest : List UInt8} (h : rmn s q = w ++ rest) (hq : q <= s.size) (k : Int) (t0 : Token) :
    q7 (s, (q : Int), t0, k, (w.length : Int), true) = some (⟨k, ⟨w.toArray⟩, (q : Int)⟩, ((q + w.length : Nat) : Int), 0) := by
  have hl := c0e h hq
  unfold q7
  have hi : i64 ((q : Int) + (w.length : Int)) = (q : Int) + (w.length : Int) := i8 (by omega) (by omega)
  simp only [Bool.not_true, Bool.false_eq_true, if_false, hi, b7p h hq, Option.bind_some]
  rfl
theorem e4g {s : ByteArray} (hs : s.size <= 8000) {q : Nat} {c : UInt8} {rest : List UInt8} (h : rmn s q = c :: rest) (h1 : d8k c = true) (h2 : ((iv c == 60) = false /\ (iv c == 62) = false) \/ b84 (fun c => iv c == 61 || iv c == 62) rest) : a2z s (q : Int) = some 1 := by
  have hlt := c67 h
  have h3 : a8y s (q : Int) = some (iv c) := c03 h
  have hj : joinC a58 (s, (q : Int)) = some 1 := by
    unfold joinC a58
    simp only [h3, Option.bind_some]
    unfold d8k at h1
    simp only [List.any_cons, List.any_nil, Bool.or_false, Bool.or_eq_true] at h1
    rcases h1 with h1 | h1 | h1 | h1 | h1 | h1 | h1 | h1 | h1 | h1 | h1 | h1 | h1 <;> (rw [eq_of_beq h1]; rfl)
  unfold a2z
  have hi : i64 ((q : Int) + 1) = ((q + 1 : Nat) : Int) := by rw [b48 (by omega) (by omega)]; omega
  rw [hi]
  by_cases hlt2 : q + 1 < s.size
  . rw [if_pos (by simp; omega)]
    cases rest with
    | nil => exact absurd (d2d.1 (c3d h)) (by omega)
    | cons c2 r =>
      have hs2 : b5f s (q : Int) (i64 ((q : Int) + 2)) = some ⟨#[c, c2]⟩ := by
        have := b7p (s := s) (p := q) (a := [c, c2]) (rest := r) h (by omega)
        rw [i8 (by omega) (by omega)]
        exact this
      simp only [hs2, Option.bind_some, a99]
      have key : ∀ (a b : UInt8) (x : ByteArray), x = ⟨#[a, b]⟩ -> (iv a == 60 || iv a == 62) = true -> (iv b == 61 || iv b == 62) = true -> (((⟨#[c, c2]⟩ : ByteArray).toList == x.toList)) = false := by
        intro a b x hx ha hb
        subst hx
        cases he : ((⟨#[c, c2]⟩ : ByteArray).toList == (⟨#[a, b]⟩ : ByteArray).toList) with
        | false => rfl
        | true =>
          have he := eq_of_beq he
          rw [ByteArray.toList_eq, ByteArray.toList_eq] at he
          have he : [c, c2] = [a, b] := he
          injection he with e1 e2
          injection e2 with e2 _
          subst e1; subst e2
          rcases h2 with ⟨g1, g2⟩ | g
          . rw [g1, g2] at ha; cases ha
          . have g := g c2 r rfl
            have g : (iv c2 == 61 || iv c2 == 62) = false := g
            rw [g] at hb; cases hb
      rw [key 60 61 b40 rfl (by decide) (by decide), key 62 61 a4v rfl (by decide) (by decide), key 60 62 b3z rfl (by decide) (by decide)]
      exact hj
  . rw [if_neg (by simp; omega)]
    exact hj
theorem e1u {s : ByteArray} (hs : s.size <= 8000) {q : Nat} {c c2 : UInt8} {rest : List UInt8} (h : rmn s q = c :: c2 :: rest) (h1 : (c, c2) = (60, 61) \/ (c, c2) = (62, 61) \/ (c, c2) = (60, 62)) : a2z s (q : Int) = some 2 := by
  have hlt := c67 h
  have hlt2 := c67 (c3d h)
  unfold a2z
  have hi : i64 ((q : Int) + 1) = ((q + 1 : Nat) : Int) := by rw [b48 (by omega) (by omega)]; omega
  rw [hi, if_pos (by simp; omega)]
  have hs2 : b5f s (q : Int) (i64 ((q : Int) + 2)) = some ⟨#[c, c2]⟩ := by
    have := b7p (s := s) (p := q) (a := [c, c2]) (rest := rest) h (by omega)
    rw [i8 (by omega) (by omega)]
    exact this
  simp only [hs2, Option.bind_some, a99, ByteArray.toList_eq]
  rcases h1 with h1 | h1 | h1 <;> (injection h1 with e1 e2; subst e1; subst e2; rfl)
theorem e8l {s : ByteArray} (hs : s.size <= 8000) {p : Nat} {b : Bool} {t : Tk} {w rest : List UInt8} (h : rmn s p = blk b ++ (w ++ rest)) (hp : p <= s.size) (hl : LxOK t w rest) :
    ∃ tok, TkR tok t /\ (tok.Kind == 0) = false /\ a45 s (p : Int) = some (tok, ((p + (blk b).length + w.length : Nat) : Int), 0) /\ p + (blk b).length + w.length <= s.size /\ 1 <= w.length := by
  have hq : rmn s (p + (blk b).length) = w ++ rest := c8r h
  have hqs := c0e h hp
  obtain ⟨q, hqe⟩ : ∃ q, p + (blk b).length = q := ⟨_, rfl⟩
  have hsk : (∀ c r, w ++ rest = c :: r -> d5j c = true) -> a5l s (p : Int) = some (q : Int) := fun hh => by rw [<- hqe]; exact d94 hs h hp hh
  rw [hqe] at hq hqs ⊢
  have hws := c0e hq hqs
  have head : ∀ (c : UInt8) (r : List UInt8), w ++ rest = c :: r -> d5j c = true -> ∀ o, (∀ v3, v3 = iv c -> q < s.size -> (if d4s v3 = true then
      (a3r s (q : Int) false).bind fun v5 => joinC q7 (s, (q : Int), (⟨0, a1f, 0⟩ : Token), 1, v5, decide (v5 <= 12))
    else if c6e v3 = true then
      (a3r s (q : Int) true).bind fun v10 => (b5f s (q : Int) (i64 ((q : Int) + v10))).bind fun v11 => (a0a v11).bind fun v12 => joinC q7 (s, (q : Int), (⟨0, a1f, 0⟩ : Token), 2, v10, v12.2.2.2)
    else if (v3 == 64) = true then
      (if decide ((i64 ((s.size : Int) - (q : Int))) >= 11) = true then (b5f s (i64 ((q : Int) + 1)) (i64 ((q : Int) + 11))).bind fun v14 => (a1x v14).bind fun v15 => joinC q7 (s, (q : Int), (⟨0, a1f, 0⟩ : Token), 3, 11, v15.2)
        else joinC q7 (s, (q : Int), (⟨0, a1f, 0⟩ : Token), 3, 11, decide ((i64 ((s.size : Int) - (q : Int))) >= 11)))
    else (a2z s (q : Int)).bind fun v16 => joinC q7 (s, (q : Int), (⟨0, a1f, 0⟩ : Token), 4, v16, decide (v16 > 0))) = o) -> a45 s (p : Int) = o := by
    intro c r hw hsol o ho
    have hc : rmn s q = c :: r := by rw [hq, hw]
    have hlt := c67 hc
    have h3 : a8y s (q : Int) = some (iv c) := c03 hc
    unfold a45
    have e1 : (decide ((p : Int) < 0)) = false := by simp
    have e2 : (decide ((p : Int) > (s.size : Int))) = false := by simp; omega
    have e3 : ((q : Int) == (s.size : Int)) = false := by simp; omega
    simp only [e1, e2, a99, Bool.or_false, Bool.false_eq_true, if_false, Option.bind_some, hsk (fun c' r' h' => by rw [hw] at h'; injection h' with a _; rw [<- a]; exact hsol), e3, h3, c9u, c78]
    exact ho _ rfl hlt
  have ns : ∀ c : UInt8, d5j c = true ↔ ¬ (iv c = 10 \/ iv c = 35 \/ iv c = 9 \/ iv c = 13 \/ iv c = 32) := fun c => by unfold d5j; simp; omega
  cases hl with
  | w h1 h2 h3 h4 =>
    rename_i c w
    have hr := e6f hs (b := false) hq (by omega) h4 h2
    refine ⟨⟨1, ⟨(c :: w).toArray⟩, (q : Int)⟩, ⟨rfl, rfl⟩, rfl, ?_, by omega, by simp⟩
    refine head c (w ++ rest) rfl ((ns c).2 (by unfold d4s at h1; simp at h1; omega)) _ fun v3 hv _ => ?_
    subst hv
    rw [if_pos h1, hr, Option.bind_some, decide_eq_true (show ((c :: w).length : Int) <= 12 by omega)]
    exact d9f hs hq (by omega) 1 _
  | n h1 h2 h3 h4 h5 h6 =>
    rename_i c w v d x y
    have hr := e6f hs (b := true) hq (by omega) h4 h3
    refine ⟨⟨2, ⟨(c :: w).toArray⟩, (q : Int)⟩, ⟨rfl, h6, ?_⟩, rfl, ?_, by omega, by simp⟩
    . rw [e1h]
      unfold c6e iv at h1
      simp at h1 ⊢
      omega
    . refine head c (w ++ rest) rfl ((ns c).2 (by unfold c6e at h1; simp at h1; omega)) _ fun v3 hv _ => ?_
      subst hv
      have hss := b7p (s := s) (p := q) (a := c :: w) (rest := rest) hq (by omega)
      rw [if_neg (by rw [h2]; decide), if_pos h1, hr, Option.bind_some, i8 (by omega) (by omega), hss, Option.bind_some, h5, Option.bind_some]
      exact d9f hs hq (by omega) 2 _
  | d h1 h2 =>
    rename_i w day
    have hs1 := b7p (s := s) (p := q + 1) (a := w) (rest := rest) (c3d hq) (by simp at hws; omega)
    have hl11 : ((64 : UInt8) :: w).length = 11 := by simp [h1]
    refine ⟨⟨3, ⟨(64 :: w).toArray⟩, (q : Int)⟩, ⟨rfl, ?_, ?_⟩, rfl, ?_, by omega, by simp⟩
    . show a4s ⟨(64 :: w).toArray⟩ = some day
      unfold a4s
      have hsz : (⟨(64 :: w).toArray⟩ : ByteArray).size = 11 := by rw [b9t]; exact hl11
      have h4 := b7p (s := ⟨(64 :: w).toArray⟩) (p := 1) (a := w) (rest := []) (by simp [rmn]) (by omega)
      have h4 : b5f (⟨(64 :: w).toArray⟩ : ByteArray) 1 ((⟨(64 :: w).toArray⟩ : ByteArray).size : Int) = some ⟨w.toArray⟩ := by
        rw [hsz]
        rw [h1] at h4
        exact h4
      rw [h4, Option.bind_some, h2]
      rfl
    . rw [e1h]; rfl
    . refine head 64 (w ++ rest) rfl rfl _ fun v3 hv hlt => ?_
      subst hv
      rw [if_neg (by decide), if_neg (by decide), if_pos (by decide), if_pos (by rw [i8 (by omega) (by omega)]; simp; omega)]
      rw [b48 (by omega) (by omega), i8 (n := (q : Int) + 11) (by omega) (by omega)]
      have hs1 : b5f s ((q : Int) + 1) ((q : Int) + 11) = some ⟨w.toArray⟩ := by
        rw [h1] at hs1
        rw [show (q : Int) + 1 = ((q + 1 : Nat) : Int) by omega, show (q : Int) + 11 = ((q + 1 : Nat) : Int) + ((10 : Nat) : Int) by omega]
        exact hs1
      rw [hs1, Option.bind_some, h2, Option.bind_some]
      have := d9f hs hq (by omega) 3 ⟨0, a1f, 0⟩
      rw [hl11] at this ⊢
      exact this
  | s1 h1 h2 =>
    rename_i c
    have hs1 := e4g hs (rest := rest) hq h1 h2
    have h10 : iv c = 60 \/ iv c = 62 \/ iv c = 61 \/ iv c = 43 \/ iv c = 45 \/ iv c = 42 \/ iv c = 47 \/ iv c = 40 \/ iv c = 41 \/ iv c = 123 \/ iv c = 125 \/ iv c = 44 \/ iv c = 59 := by
      unfold d8k at h1
      simpa using h1
    refine ⟨⟨4, ⟨#[c]⟩, (q : Int)⟩, ⟨rfl, rfl⟩, rfl, ?_, by omega, by simp⟩
    refine head c rest rfl ((ns c).2 (by omega)) _ fun v3 hv _ => ?_
    subst hv
    rw [if_neg (by unfold d4s; simp; omega), if_neg (by unfold c6e; simp; omega), if_neg (by simp; omega), hs1, Option.bind_some]
    exact d9f hs hq (by omega) 4 _
  | s2 h1 =>
    rename_i c c2
    have hs1 := e1u hs (rest := rest) hq h1
    have h10 : iv c = 60 \/ iv c = 62 := by rcases h1 with h1 | h1 | h1 <;> (injection h1 with e1 e2; subst e1; subst e2; decide)
    refine ⟨⟨4, ⟨#[c, c2]⟩, (q : Int)⟩, ⟨rfl, rfl⟩, rfl, ?_, by omega, by simp⟩
    refine head c (c2 :: rest) rfl ((ns c).2 (by omega)) _ fun v3 hv _ => ?_
    subst hv
    rw [if_neg (by unfold d4s; simp; omega), if_neg (by unfold c6e; simp; omega), if_neg (by simp; omega), hs1, Option.bind_some]
    exact d9f hs hq (by omega) 4 _
structure Lx where
  t : Tk
  w : List UInt8
  sp : Bool
def y7 : List Lx -> List UInt8
  | [] => []
  | l :: ls => l.w ++ (blk l.sp ++ y7 ls)
def okL : List Lx -> Prop
  | [] => True
  | l :: ls => LxOK l.t l.w (blk l.sp ++ y7 ls) /\ okL ls
theorem f3p {s : ByteArray} (hs : s.size <= 8000) : ∀ (ls : List Lx) (p : Nat) (b : Bool) (acc : List Token) (k : Nat), rmn s p = blk b ++ y7 ls -> p <= s.size -> okL ls -> acc.length <= p -> ls.length < k ->
    ∃ toks, d9 k (a4h s) (acc, (p : Int)) = some (acc ++ toks, 0, 0) /\ q9 TkR toks (ls.map (·.t)) /\ acc.length + toks.length <= s.size := by
  intro ls
  induction ls with
  | nil =>
    intro p b acc k h hp _ ha hk
    obtain ⟨k, rfl⟩ : ∃ m, k = m + 1 := ⟨k - 1, by simp at hk; omega⟩
    have hsk := d94 (w := []) hs h hp (fun _ _ h => by cases h)
    have hq : rmn s (p + (blk b).length) = [] := c8r (rest := []) h
    have hq2 := c0e (rest := []) h hp
    have hq1 := d2d.1 hq
    refine ⟨[], ?_, trivial, by simp; omega⟩
    rw [j8]
    unfold a4h a45
    have e1 : (decide ((p : Int) < 0)) = false := by simp
    have e2 : (decide ((p : Int) > (s.size : Int))) = false := by simp; omega
    have e3 : (((p + (blk b).length : Nat) : Int) == (s.size : Int)) = true := by simp; omega
    simp only [e1, e2, a99, Bool.or_false, Bool.false_eq_true, if_false, Option.bind_some, hsk, e3, if_true, List.append_nil, show ((0 : Int) != 0) = false from rfl, BEq.rfl]
  | cons l ls ih =>
    intro p b acc k h hp hok ha hk
    have hk : ls.length + 1 < k := hk
    obtain ⟨k, rfl⟩ : ∃ m, k = m + 1 := ⟨k - 1, by omega⟩
    obtain ⟨tok, ht, hkd, hn, hle, h1⟩ := e8l hs h hp hok.1
    have hrm : rmn s (p + (blk b).length + l.w.length) = blk l.sp ++ y7 ls := c8r (c8r h)
    obtain ⟨toks, e, hrel, hlen⟩ := ih (p + (blk b).length + l.w.length) l.sp (acc ++ [tok]) k hrm hle hok.2 (by simp; omega) (by omega)
    refine ⟨tok :: toks, ?_, ⟨ht, hrel⟩, by simp at hlen ⊢; omega⟩
    rw [j8]
    generalize hLP : d9 k (a4h s) = LP at e ⊢
    unfold a4h
    simp only [hn, Option.bind_some, show ((0 : Int) != 0) = false from rfl, Bool.false_eq_true, if_false, hkd]
    rw [show a8w 32 acc [tok] = some (acc ++ [tok]) from a9f (by simp; omega), Option.bind_some, e, List.append_assoc]
    rfl
theorem d8w {s : ByteArray} (hs : s.size <= 8000) (ls : List Lx) (h : s.data.toList = y7 ls) (hok : okL ls) (hl : ls.length <= 8000) : ∃ toks, a6e s = some (toks, 0, 0) /\ q9 TkR toks (ls.map (·.t)) /\ toks.length <= 8000 := by
  obtain ⟨toks, e, h1, h2⟩ := f3p hs ls 0 false [] FU h (Nat.zero_le _) hok (Nat.zero_le _) (by have := a2s; omega)
  refine ⟨toks, ?_, h1, by simp at h2; omega⟩
  unfold a6e
  rw [if_neg (by simp; omega)]
  exact e
end Go.PL
namespace Go.PL
open Go Go.SX
def d56 (l : List UInt8) : Int := l.foldl (fun x c => x * 10 + (iv c - 48)) 0
theorem c2h (l : List UInt8) (c : UInt8) : d56 (l ++ [c]) = d56 l * 10 + (iv c - 48) := by simp [d56]
theorem e5s {d : Nat} (h : d < 10) : iv (UInt8.ofNat (48 + d)) = 48 + (d : Int) := by
  have : d = 0 \/ d = 1 \/ d = 2 \/ d = 3 \/ d = 4 \/ d = 5 \/ d = 6 \/ d = 7 \/ d = 8 \/ d = 9 := by omega
  rcases this with rfl | rfl | rfl | rfl | rfl | rfl | rfl | rfl | rfl | rfl <;> rfl
structure Dg (n : Nat) (l : List UInt8) : Prop where
  dig : ∀ c ∈ l, c6e (iv c) = true
  val : d56 l = (n : Int)
  ne : l ≠ []
  hd : 1 < l.length -> ∀ c r, l = c :: r -> iv c ≠ 48
theorem d71 : ∀ (k u : Nat), u < 10 ^ (k + 1) -> Dg u (a7f k u) := by
  have one : ∀ u, u < 10 -> Dg u [UInt8.ofNat (48 + u)] := fun u hu => by
    have h := e5s hu
    exact ⟨fun c hc => by rw [List.mem_singleton] at hc; subst hc; rw [h]; unfold c6e; simp; omega, by show (0 : Int) * 10 + (iv (UInt8.ofNat (48 + u)) - 48) = _; rw [h]; omega, by simp, fun h => by simp at h⟩
  intro k
  induction k with
  | zero => intro u h; exact one u (by simpa using h)
  | succ k ih =>
    intro u h
    unfold a7f
    split
    . exact one u (by assumption)
    . rename_i hu
      have hq := ih (u / 10) (by rw [Nat.pow_succ] at h; omega)
      have h := e5s (d := u % 10) (by omega)
      refine ⟨fun c hc => ?_, ?_, by simp, fun hl c r he => ?_⟩
      . rcases List.mem_append.1 hc with hc | hc
        . exact hq.dig c hc
        . rw [List.mem_singleton] at hc; subst hc; rw [h]; unfold c6e; simp; omega
      . rw [c2h, hq.val, h]; omega
      . cases hb : a7f k (u / 10) with
        | nil => exact absurd hb hq.ne
        | cons x y =>
          rw [hb] at he
          have hx : x = c := by injection he
          subst hx
          cases y with
          | nil =>
            have := hq.val
            rw [hb] at this
            simp [d56] at this
            omega
          | cons z t => exact hq.hd (by rw [hb]; simp) x (z :: t) hb
theorem b95 : ∀ (k u m : Nat), u < 10 ^ (m + 1) -> (a7f k u).length <= m + 1
  | 0, u, m, h => by simp [a7f]
  | k + 1, u, m, h => by
    unfold a7f
    split
    . simp
    . rename_i hu
      cases m with
      | zero => simp at h; omega
      | succ m =>
        have := b95 k (u / 10) m (by rw [Nat.pow_succ] at h; omega)
        simp; omega
theorem d8a {d : Nat} (h : d < 10) : b5f a3k (d : Int) (i64 ((d : Int) + 1)) = some ⟨#[UInt8.ofNat (48 + d)]⟩ := by
  have : d = 0 \/ d = 1 \/ d = 2 \/ d = 3 \/ d = 4 \/ d = 5 \/ d = 6 \/ d = 7 \/ d = 8 \/ d = 9 := by omega
  rcases this with rfl | rfl | rfl | rfl | rfl | rfl | rfl | rfl | rfl | rfl <;> rfl
theorem c8d {a b : List UInt8} (h : a.length + b.length <= 100000) : a40 ⟨a.toArray⟩ ⟨b.toArray⟩ = some ⟨(a ++ b).toArray⟩ := by
  unfold a40
  rw [if_pos (by rw [b9t, b9t]; simp; omega)]
  congr 1
theorem d7a : ∀ (k u : Nat) (acc : List UInt8) (j : Nat), u < 10 ^ (k + 1) -> u < 1000000 -> acc.length + k <= 1000 -> k < j -> d9 j a0g ((u : Int), ⟨acc.toArray⟩) = some ⟨(a7f k u ++ acc).toArray⟩ := by
  have last : ∀ (u : Nat) (acc : List UInt8) (r : (Int × ByteArray) -> Option ByteArray), u < 10 -> acc.length <= 1000 -> a0g r ((u : Int), ⟨acc.toArray⟩) = some ⟨([UInt8.ofNat (48 + u)] ++ acc).toArray⟩ := by
    intro u acc r hu ha
    unfold a0g
    rw [if_neg (by simp; omega)]
    show (b5f a3k (u : Int) (i64 ((u : Int) + 1))).bind _ = _
    rw [d8a hu, Option.bind_some]
    have := c8d (a := [UInt8.ofNat (48 + u)]) (b := acc) (by simp; omega)
    show (a40 ⟨#[UInt8.ofNat (48 + u)]⟩ ⟨acc.toArray⟩).bind _ = _
    rw [show (⟨#[UInt8.ofNat (48 + u)]⟩ : ByteArray) = ⟨[UInt8.ofNat (48 + u)].toArray⟩ from rfl, this, Option.bind_some]
  intro k
  induction k with
  | zero =>
    intro u acc j h _ ha hj
    obtain ⟨j, rfl⟩ : ∃ m, j = m + 1 := ⟨j - 1, by omega⟩
    rw [j8]
    exact last u acc _ (by simpa using h) (by omega)
  | succ k ih =>
    intro u acc j h h6 ha hj
    obtain ⟨j, rfl⟩ : ∃ m, j = m + 1 := ⟨j - 1, by omega⟩
    rw [j8]
    unfold a7f
    split
    . exact last u acc _ (by assumption) (by omega)
    . rename_i hu
      have ih := ih (u / 10) (UInt8.ofNat (48 + u % 10) :: acc) j (by rw [Nat.pow_succ] at h; omega) (by omega) (by simp; omega) (by omega)
      generalize d9 j a0g = LP at ih ⊢
      unfold a0g
      rw [if_pos (by simp; omega)]
      have hr : b2j (u : Int) 10 = some ((u % 10 : Nat) : Int) := by unfold b2j; rw [if_neg (by decide), Int.tmod_eq_emod_of_nonneg (by omega)]; congr 1
      have hq : b5i (u : Int) 10 = some ((u / 10 : Nat) : Int) := by unfold b5i; rw [if_neg (by decide), Int.tdiv_eq_ediv_of_nonneg (by omega), i8 (by omega) (by omega)]; congr 1
      simp only [hr, hq, Option.bind_some, d8a (show u % 10 < 10 by omega)]
      have := c8d (a := [UInt8.ofNat (48 + u % 10)]) (b := acc) (by simp; omega)
      rw [show (⟨#[UInt8.ofNat (48 + u % 10)]⟩ : ByteArray) = ⟨[UInt8.ofNat (48 + u % 10)].toArray⟩ from rfl, this, Option.bind_some, List.append_assoc]
      exact ih
theorem b4x {u : Nat} (h : u < 1000000) : k6 (u : Int) = some ⟨(a7f 20 u).toArray⟩ := by
  have := d7a 20 u [] FU (by omega) h (by decide) (by have := a2s; omega)
  rw [List.append_nil] at this
  exact this
end Go.PL
namespace Go.PL
open Go Go.SX
theorem c9z (l : List UInt8) : (⟨l.toArray⟩ : ByteArray).size = l.length := by rw [b9t]
theorem b58 {l : List UInt8} {i : Nat} {c : UInt8} (h : l[i]? = some c) : a8y ⟨l.toArray⟩ (i : Int) = some (iv c) := by
  refine c03 (rest := l.drop (i + 1)) ?_
  unfold rmn
  have hlt := (List.getElem?_eq_some_iff.1 h).1
  show l.drop i = _
  rw [List.drop_eq_getElem_cons hlt, (List.getElem?_eq_some_iff.1 h).2]
theorem c9e {a b : List UInt8} : b5f ⟨(a ++ b).toArray⟩ 0 (a.length : Int) = some ⟨a.toArray⟩ := by
  have := b7p (s := ⟨(a ++ b).toArray⟩) (p := 0) (a := a) (rest := b) rfl (Nat.zero_le _)
  simpa using this
theorem b5t {c : UInt8} (h : c6e (iv c) = true) : 48 <= iv c /\ iv c <= 57 := by unfold c6e at h; simpa using h
section
variable {n : Nat} {l : List UInt8}
theorem c0j (h : Dg n l) (hl : l.length <= 9) (d : Int) : joinC a39 (⟨l.toArray⟩, d) = some (⟨l.toArray⟩, a1f, d, true) := by
  have hpos : 1 <= l.length := by cases l with | nil => exact absurd rfl h.ne | cons _ _ => simp
  have j2 : ∀ (m i k : Nat), i + m = l.length -> m < k -> d9 k (a38 (d, ⟨l.toArray⟩, a1f)) (i : Int) = some (⟨l.toArray⟩, a1f, d, true) := by
    intro m
    induction m with
    | zero =>
      intro i k hi hk
      obtain ⟨k, rfl⟩ : ∃ m, k = m + 1 := ⟨k - 1, by omega⟩
      rw [j8]
      unfold a38
      have hz : i64 ((l.length : Int) + (a1f.size : Int)) = (l.length : Int) := by
        have h0 : (l.length : Int) + (a1f.size : Int) = (l.length : Int) := by rw [show a1f.size = 0 from rfl]; simp
        rw [h0, i8 (by omega) (by omega)]
      simp only [c9z, hz]
      rw [if_neg (by simp; omega)]
      have e1 : decide ((l.length : Int) < 1) = false := by simp; omega
      have e2 : decide ((l.length : Int) > 9) = false := by simp; omega
      simp only [e1, e2, Bool.false_eq_true, if_false, Option.bind_some]
      by_cases h1 : 1 < l.length
      . cases hc : l with
        | nil => exact absurd hc h.ne
        | cons c r =>
          have hc0 := h.hd h1 c r hc
          rw [hc] at h1
          have e3 : decide (((c :: r).length : Int) > 1) = true := by simp at h1 ⊢; omega
          have h0 : a8y ⟨(c :: r).toArray⟩ 0 = some (iv c) := b58 (i := 0) rfl
          have e4 : (iv c == 48) = false := by simpa using hc0
          simp only [e3, if_true, h0, Option.bind_some, e4, Bool.false_eq_true, if_false]
      . have e3 : decide ((l.length : Int) > 1) = false := by simp; omega
        simp only [e3, Bool.false_eq_true, if_false, Option.bind_some]
    | succ m ih =>
      intro i k hi hk
      obtain ⟨k, rfl⟩ : ∃ m, k = m + 1 := ⟨k - 1, by omega⟩
      have ih := ih (i + 1) k (by omega) (by omega)
      rw [j8]
      generalize d9 k (a38 (d, ⟨l.toArray⟩, a1f)) = LP at ih ⊢
      unfold a38
      have hz : i64 ((l.length : Int) + (a1f.size : Int)) = (l.length : Int) := by
        have h0 : (l.length : Int) + (a1f.size : Int) = (l.length : Int) := by rw [show a1f.size = 0 from rfl]; simp
        rw [h0, i8 (by omega) (by omega)]
      have hc : a40 ⟨l.toArray⟩ a1f = some ⟨l.toArray⟩ := by have := c8d (a := l) (b := []) (by simp; omega); rw [List.append_nil] at this; exact this
      obtain ⟨c, hcc⟩ : ∃ c, l[i]? = some c := ⟨l[i]'(by omega), List.getElem?_eq_getElem (by omega)⟩
      simp only [c9z, hz]
      rw [if_pos (by simp; omega)]
      simp only [hc, Option.bind_some, b58 hcc, c78, h.dig c (List.mem_of_getElem? hcc), Bool.not_true, Bool.false_eq_true, if_false]
      rw [b48 (by omega) (by omega)]
      exact ih
  have j1 : ∀ (m k : Nat), m <= l.length -> m < k -> d9 k (a3b (⟨l.toArray⟩, d)) (((⟨l.toArray⟩ : ByteArray).size : Int), (m : Int) - 1) = some (⟨l.toArray⟩, a1f, d, true) := by
    intro m
    induction m with
    | zero =>
      intro k _ hk
      obtain ⟨k, rfl⟩ : ∃ m, k = m + 1 := ⟨k - 1, by omega⟩
      rw [j8]
      unfold a3b
      have hs : b5f ⟨l.toArray⟩ 0 (l.length : Int) = some ⟨l.toArray⟩ := by have := c9e (a := l) (b := []); rw [List.append_nil] at this; exact this
      rw [if_neg (by simp)]
      simp only [c9z, hs, Option.bind_some, decide_eq_false (show ¬ (l.length : Int) < (l.length : Int) by omega), Bool.false_eq_true, if_false]
      exact j2 l.length 0 FU (by omega) (by have := a2s; omega)
    | succ m ih =>
      intro k hm hk
      obtain ⟨k, rfl⟩ : ∃ m, k = m + 1 := ⟨k - 1, by omega⟩
      have ih := ih k (by omega) (by omega)
      rw [j8]
      generalize d9 k (a3b (⟨l.toArray⟩, d)) = LP at ih ⊢
      unfold a3b
      obtain ⟨c, hcc⟩ : ∃ c, l[m]? = some c := ⟨l[m]'(by omega), List.getElem?_eq_getElem (by omega)⟩
      have hr := b5t (h.dig c (List.mem_of_getElem? hcc))
      have e : ((m + 1 : Nat) : Int) - 1 = (m : Int) := by omega
      simp only [e]
      rw [if_pos (by simp)]
      have e46 : (iv c == 46) = false := by simp; omega
      simp only [b58 hcc, Option.bind_some, e46, Bool.false_eq_true, if_false]
      rw [i8 (by omega) (by omega)]
      exact ih
  unfold joinC a39
  have := j1 l.length FU (Nat.le_refl _) (by have := a2s; omega)
  rw [c9z] at this ⊢
  rw [i8 (by omega) (by omega)]
  exact this
def f2d : List UInt8 -> Int -> Prop := fun s d => (s = [] /\ d = 2) \/ (s = [100] /\ d = 3) \/ (s = [109] /\ d = 4)
theorem c29 (h : Dg n l) (hl : l.length <= 9) {s : List UInt8} {d : Int} (hs : f2d s d) : a0a ⟨(l ++ s).toArray⟩ = some (⟨l.toArray⟩, a1f, d, true) := by
  obtain ⟨m, c, rfl⟩ : ∃ m c, l = m ++ [c] := by
    rcases List.eq_nil_or_concat l with h0 | ⟨m, c, h0⟩
    . exact absurd h0 h.ne
    . exact ⟨m, c, by simpa using h0⟩
  have hr := b5t (h.dig c (by simp))
  have hlen : (m ++ [c]).length = m.length + 1 := by simp
  unfold a0a
  rcases hs with ⟨rfl, rfl⟩ | ⟨rfl, rfl⟩ | ⟨rfl, rfl⟩
  . simp only [List.append_nil]
    have hz : ((⟨(m ++ [c]).toArray⟩ : ByteArray).size : Int) = (m.length : Int) + 1 := by rw [c9z, hlen]; rfl
    have e0 : decide ((m.length : Int) + 1 > 0) = true := by simp
    have e1 : a8y ⟨(m ++ [c]).toArray⟩ (i64 ((m.length : Int) + 1 - 1)) = some (iv c) := by
      rw [i8 (by omega) (by omega), show (m.length : Int) + 1 - 1 = (m.length : Int) by omega]
      exact b58 (by simp)
    have e2 : (iv c == 100) = false := by simp; omega
    have e3 : (iv c == 109) = false := by simp; omega
    simp only [hz, e0, if_true, e1, Option.bind_some, e2, e3, Bool.false_eq_true, if_false]
    exact c0j h hl 2
  . have hz : ((⟨(m ++ [c] ++ [100]).toArray⟩ : ByteArray).size : Int) = (m.length : Int) + 2 := by rw [c9z]; simp
    have e0 : decide ((m.length : Int) + 2 > 0) = true := by simp; omega
    have e9 : i64 ((m.length : Int) + 2 - 1) = ((m ++ [c]).length : Int) := by rw [i8 (by omega) (by omega), hlen]; omega
    have e1 : a8y ⟨(m ++ [c] ++ [100]).toArray⟩ ((m ++ [c]).length : Int) = some 100 := b58 (c := 100) (by simp)
    simp only [hz, e0, if_true, e9, e1, Option.bind_some, BEq.rfl, c9e]
    exact c0j h hl 3
  . have hz : ((⟨(m ++ [c] ++ [109]).toArray⟩ : ByteArray).size : Int) = (m.length : Int) + 2 := by rw [c9z]; simp
    have e0 : decide ((m.length : Int) + 2 > 0) = true := by simp; omega
    have e9 : i64 ((m.length : Int) + 2 - 1) = ((m ++ [c]).length : Int) := by rw [i8 (by omega) (by omega), hlen]; omega
    have e1 : a8y ⟨(m ++ [c] ++ [109]).toArray⟩ ((m ++ [c]).length : Int) = some 109 := b58 (c := 109) (by simp)
    simp only [hz, e0, if_true, e9, e1, Option.bind_some, BEq.rfl, c9e, show ((109 : Int) == 100) = false from rfl, Bool.false_eq_true, if_false]
    exact c0j h hl 4
theorem e9s : ∀ (l : List UInt8) (x : Int) (N : Nat), (∀ c ∈ l, c6e (iv c) = true) -> 0 <= x -> x < 10 ^ N ->
    0 <= l.foldl (fun x c => x * 10 + (iv c - 48)) x /\ l.foldl (fun x c => x * 10 + (iv c - 48)) x < 10 ^ (N + l.length) := by
  intro l
  induction l with
  | nil => intro x N _ h0 h1; exact ⟨h0, h1⟩
  | cons c l ih =>
    intro x N hd h0 h1
    have h2 := b5t (hd c (by simp))
    have := ih (x * 10 + (iv c - 48)) (N + 1) (fun y hy => hd y (by simp [hy])) (by omega) (by rw [Int.pow_succ]; omega)
    rw [List.foldl_cons, List.length_cons, show N + (l.length + 1) = N + 1 + l.length by omega]
    exact this
theorem c0c (l : List UInt8) (h : ∀ c ∈ l, c6e (iv c) = true) : 0 <= d56 l /\ d56 l < 10 ^ l.length := by
  have := e9s l 0 0 h (by decide) (by decide)
  rw [Nat.zero_add] at this
  exact this
end
end Go.PL
namespace Go.PL
open Go Go.SX
theorem c50 : ∃ m, FU = m + 1 + 1 := ⟨FU - 2, by have := a2s; omega⟩
theorem f8o {n : Int} (h : 0 <= n) : b2j n 1 = some 0 := by rw [c02 (by decide), c28 h]; simp
theorem quo1 {n : Int} (h : 0 <= n) (h1 : n <= 9223372036854775807) : b5i n 1 = some n := by rw [d0y (by decide), Int.tdiv_one, i8 (by omega) h1]
theorem f7b {n : Int} (h0 : 0 <= n) (h1 : n <= 1000000000000000) : a2t ⟨0, n⟩ 1 = some (⟨0, n⟩, 0) := by
  unfold a2t
  simp only [show b2j 0 1 = some 0 from rfl, Option.bind_some]
  have hD : b6t 0 n 1 = some (n, 0) := by
    unfold b6t joinC b9k joinC b96
    simp only [show ((1 : Int) == 0) = false from rfl, show decide ((1 : Int) <= 0) = false from rfl, Bool.false_eq_true, if_false, BEq.rfl, if_true, show ¬ ((1 : Int) = 0) by decide, Int.tdiv_one, f8o h0, Option.bind_some, d7u h0 (show n <= 18446744073709551615 by omega)]
  simp only [hD, Option.bind_some, show ¬ ((1 : Int) = 0) by decide, if_false]
  rfl
theorem f88 {n : Int} (h0 : 0 <= n) : a1m n 1 = some 1 := by
  unfold a1m
  obtain ⟨m, hm⟩ := c50
  rw [hm, j8]
  unfold a8r
  simp only [show ((1 : Int) != 0) = true from rfl, if_true, f8o h0, Option.bind_some]
  rw [j8]
  simp only [show ((0 : Int) != 0) = false from rfl, Bool.false_eq_true, if_false]
theorem f2l : a1m 1 0 = some 1 := by
  unfold a1m
  obtain ⟨m, hm⟩ := c50
  rw [hm, j8]
  rfl
theorem f7f {n : Int} (h0 : 0 <= n) (h1 : n <= 1000000000000000) : a2y n 1 = some (⟨n, 1⟩, 0) := by
  unfold a2y
  obtain ⟨x, hx, _, _, e⟩ := c1v n
  have e := e h0 (by omega)
  subst e
  unfold a8k
  have hd : decide (x < 0) = false := by simp; omega
  have hd2 : decide (x > 1000000000000000) = false := by simp; omega
  simp only [show ((1 : Int) == 0) = false from rfl, Bool.false_eq_true, if_false, hx, show a22 1 = some 1 from rfl, Option.bind_some, f7b h0 h1, f2l, show ¬ ((1 : Int) = 0) by decide, hd, hd2, show u64 (Int.tdiv 1 1) = 1 from rfl, show ((0 : Int) != 0) = false from rfl, show decide ((1 : Int) > 1000000000) = false from rfl, show decide ((1 : Int) < 0) = false from rfl, bne_self_eq_false, i8 (show -9223372036854775808 <= x by omega) (show x <= 9223372036854775807 by omega), show i64 1 = 1 from rfl]
theorem f4t {n : Int} (h0 : 0 <= n) (h1 : n <= 1000000000000000) : w8 ⟨n, 1⟩ = some true := by
  unfold w8
  obtain ⟨x, hx, _, _, e⟩ := c1v n
  have e := e h0 (by omega)
  subst e
  have hd : decide (x >= -1000000000000000) = true := by simp; omega
  have hd2 : decide (x <= 1000000000000000) = true := by simp; omega
  simp only [show decide ((1 : Int) >= 1) = true from rfl, show decide ((1 : Int) <= 1000000000) = true from rfl, if_true, Option.bind_some, hd, hd2, hx, show u64 1 = 1 from rfl, f88 h0, BEq.rfl]
section
variable {n : Nat} {l : List UInt8}
theorem e18 (h : Dg n l) (hl : l.length <= 9) {s : List UInt8} {d : Int} (hs : f2d s d) : s6 ⟨(l ++ s).toArray⟩ = some (⟨(n : Int), 1⟩, d, true) := by
  unfold s6
  rw [c29 h hl hs, Option.bind_some]
  simp only [Bool.not_true, Bool.false_eq_true, if_false]
  have hv := c0c l h.dig
  have hp : (10 : Int) ^ l.length <= 1000000000 := by
    have : (10 : Nat) ^ l.length <= 10 ^ 9 := Nat.pow_le_pow_right (by decide) hl
    have h2 : ((10 ^ l.length : Nat) : Int) <= ((10 ^ 9 : Nat) : Int) := by exact_mod_cast this
    simpa using h2
  have go : ∀ (b a : List UInt8) (k : Nat), a ++ b = l -> b.length < k -> d9 k (a28 (⟨l.toArray⟩, a1f, d, true)) ((⟨0, 0⟩ : Fraction), d56 a, 1, (a.length : Int)) = some (⟨(n : Int), 1⟩, d, true) := by
    intro b
    induction b with
    | nil =>
      intro a k ha hk
      obtain ⟨k, rfl⟩ : ∃ m, k = m + 1 := ⟨k - 1, by omega⟩
      rw [List.append_nil] at ha
      subst ha
      rw [j8]
      unfold a28
      have hz : i64 ((a.length : Int) + (a1f.size : Int)) = (a.length : Int) := by
        have h0 : (a.length : Int) + (a1f.size : Int) = (a.length : Int) := by rw [show a1f.size = 0 from rfl]; simp
        rw [h0, i8 (by omega) (by omega)]
      simp only [c9z, hz]
      rw [if_neg (by simp), h.val, f7f (by omega) (by rw [<- h.val]; omega)]
      rfl
    | cons c b ih =>
      intro a k ha hk
      have hk : b.length + 1 < k := hk
      obtain ⟨k, rfl⟩ : ∃ m, k = m + 1 := ⟨k - 1, by omega⟩
      have ih := ih (a ++ [c]) k (by rw [List.append_assoc]; exact ha) (by omega)
      have hlen : a.length + 1 + b.length = l.length := by rw [<- ha]; simp; omega
      have hc : c ∈ l := by rw [<- ha]; simp
      have hcd := b5t (h.dig c hc)
      have hva := c0c (a ++ [c]) fun x hx => h.dig x (by rw [<- ha]; simp at hx ⊢; rcases hx with hx | hx <;> simp [hx])
      have hpa : (10 : Int) ^ (a ++ [c]).length <= 1000000000 := by
        have : (10 : Nat) ^ (a ++ [c]).length <= 10 ^ 9 := Nat.pow_le_pow_right (by decide) (by simp; omega)
        have h2 : ((10 ^ (a ++ [c]).length : Nat) : Int) <= ((10 ^ 9 : Nat) : Int) := by exact_mod_cast this
        simpa using h2
      have hva0 := c0c a fun x hx => h.dig x (by rw [<- ha]; simp [hx])
      rw [c2h] at ih hva
      rw [j8]
      generalize d9 k (a28 (⟨l.toArray⟩, a1f, d, true)) = LP at ih ⊢
      unfold a28
      have hz : i64 ((l.length : Int) + (a1f.size : Int)) = (l.length : Int) := by
        have h0 : (l.length : Int) + (a1f.size : Int) = (l.length : Int) := by rw [show a1f.size = 0 from rfl]; simp
        rw [h0, i8 (by omega) (by omega)]
      have hct : a40 ⟨l.toArray⟩ a1f = some ⟨l.toArray⟩ := by have := c8d (a := l) (b := []) (by simp; omega); rw [List.append_nil] at this; exact this
      have hget : l[a.length]? = some c := by rw [<- ha]; simp
      simp only [c9z, hz]
      rw [if_pos (by simp; omega)]
      simp only [hct, Option.bind_some, b58 hget]
      rw [if_neg (by simp; omega)]
      have e1 : i64 (d56 a * 10) = d56 a * 10 := i8 (by omega) (by omega)
      have e2 : i64 (IntKind.u8.wrap (iv c - 48)) = iv c - 48 := by
        have : IntKind.u8.wrap (iv c - 48) = iv c - 48 := by
          unfold IntKind.wrap
          simp [IntKind.bits, IntKind.signed]
          omega
        rw [this, i8 (by omega) (by omega)]
      rw [e1, e2, i8 (by omega) (by omega), b48 (by omega) (by omega)]
      have hl2 : ((a ++ [c]).length : Int) = (a.length : Int) + 1 := by simp
      rw [hl2] at ih
      exact ih
  exact go l [] FU rfl (by have := a2s; omega)
theorem d49 {n : Int} (h0 : 0 <= n) (h1 : n <= 100000) {d : Int} (h2 : 2 <= d) (h3 : d <= 4) : ∃ s, p8 ⟨n, 1⟩ d = some (s, true) := by
  unfold p8
  obtain ⟨x, hx, hxs⟩ := b7i (n := n) h0 (by omega)
  have d1 : decide (n < 0) = false := by simp; omega
  have d2 : decide (d < 2) = false := by simp; omega
  have d3 : decide (d > 4) = false := by simp; omega
  have d4 : decide (n > 999999999) = false := by simp; omega
  have e1 : i64 (n * 1) = n := by rw [Int.mul_one]; exact i8 (by omega) (by omega)
  have e2 : i64 (i64 (n - n) * 10000) = 0 := by rw [show n - n = 0 by omega]; rfl
  simp only [f4t h0 (show n <= 1000000000000000 by omega), Option.bind_some, Bool.not_true, Bool.false_eq_true, if_false, d1, show b2j 10000 1 = some 0 from rfl, bne_self_eq_false, d2, d3, quo1 h0 (show n <= 9223372036854775807 by omega), d4, hx, show b5i 10000 1 = some 10000 from rfl, e1, e2, show decide ((0 : Int) > 0) = false from rfl]
  unfold joinC a3f
  obtain ⟨m, hm⟩ := c50
  rw [hm, j8]
  unfold a65
  simp only [show decide ((0 : Int) > 0) = false from rfl, Bool.false_eq_true, if_false]
  rw [show i64 (d - 2) = d - 2 from i8 (by omega) (by omega)]
  obtain ⟨y, hy, hm⟩ := b2x (l := [a1f, e1v, e4m]) (i := d - 2) (by omega) (by simp; omega)
  have hx1 : y.size <= 1 := by
    simp at hm
    rcases hm with rfl | rfl | rfl <;> decide
  obtain ⟨z, hz, _⟩ := j6 (a := x) (b := y) (by omega)
  simp only [hy, hz, Option.bind_some]
  exact ⟨_, rfl⟩
end
end Go.PL
namespace Go.PL
open Go Go.SX
theorem d9x {l : List UInt8} (h : ∀ c ∈ l, c ≠ 46) : e86 ⟨l.toArray⟩ 46 = -1 := by
  unfold e86
  have : (List.range (⟨l.toArray⟩ : ByteArray).size).find? (fun i => (⟨l.toArray⟩ : ByteArray)[i]! == (46 : Int).toNat.toUInt8) = none := by
    rw [List.find?_eq_none]
    intro i hi
    rw [List.mem_range, c9z] at hi
    have e : (⟨l.toArray⟩ : ByteArray)[i]! = l[i] := by
      rw [getElem!_pos _ i (by rw [c9z]; exact hi)]
      rfl
    rw [e]
    have := h l[i] (List.getElem_mem hi)
    simpa using this
  rw [this]
section
variable {n : Nat} {l : List UInt8}
theorem Dg.no46 (h : Dg n l) : ∀ c ∈ l, c ≠ 46 := by
  intro c hc he
  have := b5t (h.dig c hc)
  subst he
  revert this
  decide
theorem d8r (h : Dg n l) (hl : l.length <= 9) : a5b ⟨l.toArray⟩ = some ((n : Int), true) := by
  unfold a5b
  have go : ∀ (b a : List UInt8) (k : Nat), a ++ b = l -> b.length < k -> d9 k (a5g ⟨l.toArray⟩) (d56 a, (a.length : Int)) = some ((n : Int), true) := by
    intro b
    induction b with
    | nil =>
      intro a k ha hk
      obtain ⟨k, rfl⟩ : ∃ m, k = m + 1 := ⟨k - 1, by omega⟩
      rw [List.append_nil] at ha
      subst ha
      rw [j8]
      unfold a5g
      simp only [c9z]
      rw [if_neg (by simp), h.val]
    | cons c b ih =>
      intro a k ha hk
      have hk : b.length + 1 < k := hk
      obtain ⟨k, rfl⟩ : ∃ m, k = m + 1 := ⟨k - 1, by omega⟩
      have ih := ih (a ++ [c]) k (by rw [List.append_assoc]; exact ha) (by omega)
      have hlen : a.length + 1 + b.length = l.length := by rw [<- ha]; simp; omega
      have hc : c ∈ l := by rw [<- ha]; simp
      have hcd := b5t (h.dig c hc)
      have hva := c0c (a ++ [c]) fun x hx => h.dig x (by rw [<- ha]; simp at hx ⊢; rcases hx with hx | hx <;> simp [hx])
      have hpa : (10 : Int) ^ (a ++ [c]).length <= 1000000000 := by
        have : (10 : Nat) ^ (a ++ [c]).length <= 10 ^ 9 := Nat.pow_le_pow_right (by decide) (by simp; omega)
        have h2 : ((10 ^ (a ++ [c]).length : Nat) : Int) <= ((10 ^ 9 : Nat) : Int) := by exact_mod_cast this
        simpa using h2
      have hva0 := c0c a fun x hx => h.dig x (by rw [<- ha]; simp [hx])
      rw [c2h] at ih hva
      rw [j8]
      generalize d9 k (a5g ⟨l.toArray⟩) = LP at ih ⊢
      unfold a5g b4v
      have hget : l[a.length]? = some c := by rw [<- ha]; simp
      have d1 : decide (iv c >= 48) = true := by simp; omega
      have d2 : decide (iv c <= 57) = true := by simp; omega
      simp only [c9z]
      rw [if_pos (by simp; omega)]
      simp only [Option.bind_some, b58 hget, d1, d2, if_true, Bool.not_true, Bool.false_eq_true, if_false]
      have e1 : i64 (10 * d56 a) = d56 a * 10 := by rw [Int.mul_comm]; exact i8 (by omega) (by omega)
      have e2 : i64 (IntKind.u8.wrap (iv c - 48)) = iv c - 48 := by
        have : IntKind.u8.wrap (iv c - 48) = iv c - 48 := by
          unfold IntKind.wrap
          simp [IntKind.bits, IntKind.signed]
          omega
        rw [this, i8 (by omega) (by omega)]
      rw [e1, e2, i8 (by omega) (by omega), b48 (by omega) (by omega)]
      have hl2 : ((a ++ [c]).length : Int) = (a.length : Int) + 1 := by simp
      rw [hl2] at ih
      exact ih
  exact go l [] FU rfl (by have := a2s; omega)
theorem d9v (h : Dg n l) (hl : l.length <= 9) : b4p ⟨l.toArray⟩ a8a = some (⟨l.toArray⟩, a1f, false) := by
  have hi : a4w ⟨l.toArray⟩ a8a = some (-1) := by
    unfold a4w a6i a5d
    have ne : (a8a.toList == (⟨l.toArray⟩ : ByteArray).toList) = false := by
      cases hb : (a8a.toList == (⟨l.toArray⟩ : ByteArray).toList) with
      | false => rfl
      | true =>
        have e := eq_of_beq hb
        have e2 : (a8a : ByteArray).data.toList = l := by
          rw [ByteArray.toList_eq, ByteArray.toList_eq] at e
          exact e
        exact absurd rfl (h.no46 46 (by rw [<- e2]; decide))
    simp only [show ((a8a.size : Int) == 0) = false from rfl, show ((a8a.size : Int) == 1) = true from rfl, Bool.false_eq_true, if_false, if_true, Option.bind_some, ne, show a8y a8a 0 = some 46 from rfl, d9x h.no46]
  unfold b4p b1u
  rw [hi, Option.bind_some]
  rfl
theorem d3t : ∃ m, FU = m + 1 + 1 + 1 := ⟨FU - 3, by have := a2s; omega⟩
theorem c2p (h : Dg n l) (hl : l.length <= 9) (d : Int) : joinC a5k (⟨l.toArray⟩, (⟨0, 0⟩ : Fraction), d) = some (⟨(n : Int), 1⟩, d, true) := by
  have hpos : 1 <= l.length := by cases l with | nil => exact absurd rfl h.ne | cons _ _ => simp
  have hn : (n : Int) <= 1000000000 := by
    have hv := c0c l h.dig
    have : (10 : Nat) ^ l.length <= 10 ^ 9 := Nat.pow_le_pow_right (by decide) hl
    have h2 : ((10 ^ l.length : Nat) : Int) <= ((10 ^ 9 : Nat) : Int) := by exact_mod_cast this
    rw [h.val] at hv
    have h3 : (10 : Int) ^ l.length <= 1000000000 := by simpa using h2
    omega
  unfold joinC a5k
  have e1 : decide ((l.length : Int) < 1) = false := by simp; omega
  have e2 : decide ((l.length : Int) > 9) = false := by simp; omega
  have e3 : (if (decide ((l.length : Int) > 1)) then (a8y ⟨l.toArray⟩ 0).bind fun v7 => some (v7 == 48) else some false) = some false := by
    by_cases h1 : 1 < l.length
    . cases hc : l with
      | nil => exact absurd hc h.ne
      | cons c r =>
        have hc0 := h.hd h1 c r hc
        rw [hc] at h1
        have e3 : decide (((c :: r).length : Int) > 1) = true := by simp at h1 ⊢; omega
        have h0 : a8y ⟨(c :: r).toArray⟩ 0 = some (iv c) := b58 (i := 0) rfl
        have e4 : (iv c == 48) = false := by simpa using hc0
        simp only [e3, if_true, h0, Option.bind_some, e4]
    . have e3 : decide ((l.length : Int) > 1) = false := by simp; omega
      simp only [e3, Bool.false_eq_true, if_false]
  have en : a5b a1f = some (0, true) := by
    unfold a5b
    obtain ⟨m, hm⟩ := c50
    rw [hm, j8]
    rfl
  simp only [d9v h hl, Option.bind_some, c9z, e1, e2, e3, Bool.false_eq_true, if_false, d8r h hl, en, Bool.not_true]
  have l3 : ∀ (v23 : Int) (r22 : (Fraction × Int) -> Option (Fraction × Int × Bool)) (v21 : Fraction × Int), v23 = 2 \/ v23 = 5 -> v21.1 = ⟨(n : Int), 1⟩ -> d9 FU (b0n v23 r22 v21) v21.1 = r22 (v21.1, i64 (v21.2 + 1)) := by
    intro v23 r22 v21 hv he
    obtain ⟨m, hm⟩ := c50
    rw [hm, j8]
    unfold b0n
    rw [he]
    have hr : b2j 1 v23 = some 1 := by rcases hv with rfl | rfl <;> rfl
    have hr2 : ∃ x, b2j (n : Int) v23 = some x := by rcases hv with rfl | rfl <;> exact ⟨_, c02 (by decide)⟩
    obtain ⟨x, hx⟩ := hr2
    simp only [hx, hr, Option.bind_some]
    cases (x == 0) <;> rfl
  obtain ⟨m, hm⟩ := d3t
  have l2 : ∀ v20 : Fraction × Int × Int × Int, v20.2.1 = d -> d9 FU (a17 v20) ((⟨(n : Int), 1⟩ : Fraction), 0) = some (⟨(n : Int), 1⟩, d, true) := by
    intro v20 hd
    rw [show d9 FU (a17 v20) = d9 (m + 1 + 1 + 1) (a17 v20) by rw [<- hm]]
    rw [j8]
    generalize hA : d9 (m + 1 + 1) (a17 v20) = A
    unfold a17
    simp only [show decide ((0 : Int) < 2) = true from rfl, if_true, show l8 (⟨[2, 5], rfl⟩ : Ar 2 Int).l 0 = some 2 from rfl, Option.bind_some]
    rw [l3 2 A (_, 0) (.inl rfl) rfl, <- hA, j8]
    generalize hB : d9 (m + 1) (a17 v20) = B
    unfold a17
    simp only [show i64 (0 + 1) = 1 from rfl, show decide ((1 : Int) < 2) = true from rfl, if_true, show l8 (⟨[2, 5], rfl⟩ : Ar 2 Int).l 1 = some 5 from rfl, Option.bind_some]
    rw [l3 5 B (_, 1) (.inr rfl) rfl, <- hB, j8]
    unfold a17
    simp only [show i64 (1 + 1) = 2 from rfl, show decide ((2 : Int) < 2) = false from rfl, Bool.false_eq_true, if_false, hd]
  rw [hm, j8]
  unfold b55
  simp only [show c2q a1f 0 = none from rfl, optC]
  unfold joinC b57
  simp only [Int.add_zero, i8 (show -9223372036854775808 <= (n : Int) by omega) (show (n : Int) <= 9223372036854775807 by omega)]
  exact l2 _ rfl
theorem d54 (h : Dg n l) (hl : l.length <= 9) {s : List UInt8} {d : Int} (hs : f2d s d) : b1k ⟨(l ++ s).toArray⟩ = some (⟨(n : Int), 1⟩, d, true) := by
  obtain ⟨m, c, rfl⟩ : ∃ m c, l = m ++ [c] := by
    rcases List.eq_nil_or_concat l with h0 | ⟨m, c, h0⟩
    . exact absurd h0 h.ne
    . exact ⟨m, c, by simpa using h0⟩
  have hr := b5t (h.dig c (by simp))
  have hlen : (m ++ [c]).length = m.length + 1 := by simp
  unfold b1k
  rcases hs with ⟨rfl, rfl⟩ | ⟨rfl, rfl⟩ | ⟨rfl, rfl⟩
  . simp only [List.append_nil]
    have hz : ((⟨(m ++ [c]).toArray⟩ : ByteArray).size : Int) = (m.length : Int) + 1 := by rw [c9z, hlen]; rfl
    have e0 : decide ((m.length : Int) + 1 > 0) = true := by simp
    have e1 : a8y ⟨(m ++ [c]).toArray⟩ (i64 ((m.length : Int) + 1 - 1)) = some (iv c) := by
      rw [i8 (by omega) (by omega), show (m.length : Int) + 1 - 1 = (m.length : Int) by omega]
      exact b58 (by simp)
    have e2 : (iv c == 100) = false := by simp; omega
    have e3 : (iv c == 109) = false := by simp; omega
    simp only [hz, e0, if_true, e1, Option.bind_some, e2, e3, Bool.false_eq_true, if_false]
    exact c2p h hl 2
  . have hz : ((⟨(m ++ [c] ++ [100]).toArray⟩ : ByteArray).size : Int) = (m.length : Int) + 2 := by rw [c9z]; simp
    have e0 : decide ((m.length : Int) + 2 > 0) = true := by simp; omega
    have e9 : i64 ((m.length : Int) + 2 - 1) = ((m ++ [c]).length : Int) := by rw [i8 (by omega) (by omega), hlen]; omega
    have e1 : a8y ⟨(m ++ [c] ++ [100]).toArray⟩ ((m ++ [c]).length : Int) = some 100 := b58 (c := 100) (by simp)
    simp only [hz, e0, if_true, e9, e1, Option.bind_some, BEq.rfl, c9e]
    exact c2p h hl 3
  . have hz : ((⟨(m ++ [c] ++ [109]).toArray⟩ : ByteArray).size : Int) = (m.length : Int) + 2 := by rw [c9z]; simp
    have e0 : decide ((m.length : Int) + 2 > 0) = true := by simp; omega
    have e9 : i64 ((m.length : Int) + 2 - 1) = ((m ++ [c]).length : Int) := by rw [i8 (by omega) (by omega), hlen]; omega
    have e1 : a8y ⟨(m ++ [c] ++ [109]).toArray⟩ ((m ++ [c]).length : Int) = some 109 := b58 (c := 109) (by simp)
    simp only [hz, e0, if_true, e9, e1, Option.bind_some, BEq.rfl, c9e, show ((109 : Int) == 100) = false from rfl, Bool.false_eq_true, if_false]
    exact c2p h hl 4
end
theorem d5r {n : Nat} (h1 : n <= 100000) {d : Int} (h2 : 2 <= d) (h3 : d <= 4) : ∃ s, a04 ⟨(n : Int), 1⟩ d = some (s, true) := by
  have hd := d71 20 n (Nat.lt_of_le_of_lt h1 (by decide))
  have hdl := b95 20 n 5 (Nat.lt_of_le_of_lt h1 (by decide))
  unfold a04
  have d1 : decide ((n : Int) < 0) = false := by simp
  have d2 : decide ((n : Int) > 1000000000000000) = false := by simp; omega
  have hI : strconv_Itoa (n : Int) = some ⟨(a7f 20 n).toArray⟩ := by unfold strconv_Itoa; rw [if_pos (by omega)]; simp
  simp only [show decide ((1 : Int) < 1) = false from rfl, show decide ((1 : Int) > 10000) = false from rfl, Bool.false_eq_true, if_false, Option.bind_some, d1, d2, quo1 (show 0 <= (n : Int) by omega) (show (n : Int) <= 9223372036854775807 by omega), f8o (show 0 <= (n : Int) by omega), hI]
  obtain ⟨m, hm⟩ := c50
  rw [hm, j8]
  unfold a91
  simp only [show decide ((0 : Int) > 0) = false from rfl, Bool.false_eq_true, if_false]
  have fin : ∀ s, f2d s d -> joinC a29 (d, (⟨(n : Int), 1⟩ : Fraction), ⟨(a7f 20 n ++ s).toArray⟩) = some (⟨(a7f 20 n ++ s).toArray⟩, true) := by
    intro s hs
    unfold joinC a29
    simp only [d54 hd (by omega) hs, Option.bind_some, Bool.not_true, Bool.false_eq_true, if_false, BEq.rfl, Bool.and_true, bne_self_eq_false]
  have hcat : ∀ s : List UInt8, s.length <= 1 -> a40 ⟨(a7f 20 n).toArray⟩ ⟨s.toArray⟩ = some ⟨(a7f 20 n ++ s).toArray⟩ := fun s hs => c8d (by omega)
  have hc : d = 2 \/ d = 3 \/ d = 4 := by omega
  rcases hc with rfl | rfl | rfl
  . have := fin [] (.inl ⟨rfl, rfl⟩)
    rw [List.append_nil] at this
    exact ⟨_, this⟩
  . have e := hcat [100] (by simp)
    have f := fin [100] (.inr (.inl ⟨rfl, rfl⟩))
    refine ⟨⟨(a7f 20 n ++ [100]).toArray⟩, ?_⟩
    show (a40 ⟨(a7f 20 n).toArray⟩ ⟨[100].toArray⟩).bind _ = _
    rw [e, Option.bind_some]
    exact f
  . have e := hcat [109] (by simp)
    have f := fin [109] (.inr (.inr ⟨rfl, rfl⟩))
    refine ⟨⟨(a7f 20 n ++ [109]).toArray⟩, ?_⟩
    show (a40 ⟨(a7f 20 n).toArray⟩ ⟨[109].toArray⟩).bind _ = _
    rw [e, Option.bind_some]
    exact f
end Go.PL
namespace Go.PL
open Go Go.SX
theorem p6 {σ β : Type} {f : (σ -> Option β) -> σ -> Option β} (st : Nat -> σ) (N : Nat) {x : Option β} (hstep : ∀ i, i < N -> ∀ r, f r (st i) = r (st (i + 1))) (hend : ∀ r, f r (st N) = x) {k : Nat} (hk : N < k) : d9 k f (st 0) = x := by
  have go : ∀ m i k, i + m = N -> m < k -> d9 k f (st i) = x := by
    intro m
    induction m with
    | zero =>
      intro i k hi hk
      obtain ⟨k, rfl⟩ : ∃ m, k = m + 1 := ⟨k - 1, by omega⟩
      obtain rfl : i = N := by omega
      rw [j8]
      exact hend _
    | succ m ih =>
      intro i k hi hk
      obtain ⟨k, rfl⟩ : ∃ m, k = m + 1 := ⟨k - 1, by omega⟩
      rw [j8, hstep i (by omega)]
      exact ih (i + 1) k (by omega) (by omega)
  exact go N 0 k (by omega) hk
theorem a3i {α : Type} {l : List α} {i : Nat} (h : i < l.length) : l8 l (i : Int) = some l[i] := d80 (by omega) (by simp [h])
theorem a7h {i : Nat} (h : i <= 1000000) : i64 ((i : Int) + 1) = ((i + 1 : Nat) : Int) := by rw [i8 (by omega) (by omega)]; omega
theorem b8l {i n : Nat} (h : i < n) : decide ((i : Int) < (n : Int)) = true := by simp; omega
theorem a85 (n : Nat) : decide ((n : Int) < (n : Int)) = false := by simp
def AE.dep : AE -> Nat
  | .bin _ a b => max (max 0 a.dep) b.dep + 1
  | .ite a b c => max (max (max 0 a.dep) b.dep) c.dep + 1
  | _ => 1
def AE.sz : AE -> Nat
  | .bin _ a b => 1 + a.sz + b.sz
  | .ite a b c => 1 + a.sz + b.sz + c.sz
  | _ => 1
theorem b7g (a : AE) : 1 <= a.dep := by cases a <;> simp [AE.dep]
def AE.args : AE -> List AE
  | .bin _ a b => [a, b]
  | .ite a b c => [a, b, c]
  | _ => []
theorem AE.ind {P : AE -> Prop} (h : ∀ a : AE, (∀ b ∈ a.args, P b) -> P a) : ∀ a, P a := by
  intro a
  induction a with
  | lit v d => exact h _ fun b hb => by cases hb
  | nm s => exact h _ fun b hb => by cases hb
  | best k => exact h _ fun b hb => by cases hb
  | bin op a b iha ihb => exact h _ fun x hx => by simp [AE.args] at hx; rcases hx with rfl | rfl <;> assumption
  | ite a b c iha ihb ihc => exact h _ fun x hx => by simp [AE.args] at hx; rcases hx with rfl | rfl | rfl <;> assumption
theorem c5l (a : AE) : a.e.Args = a.args.map AE.e := by cases a <;> rfl
theorem b6q (a : AE) : a.args.length <= 3 := by cases a <;> simp [AE.args]
theorem e5c (a : AE) : a.dep = a.args.foldl (fun m b => max m b.dep) 0 + 1 := by cases a <;> rfl
theorem e4s (a : AE) : a.sz = a.args.foldl (fun m b => m + b.sz) 1 := by cases a <;> rfl
theorem b23 {a b : AE} (h : b ∈ a.args) : b.dep < a.dep := by
  cases a with
  | bin op x y => simp [AE.args] at h; show b.dep < max (max 0 x.dep) y.dep + 1; rcases h with rfl | rfl <;> omega
  | ite x y z => simp [AE.args] at h; show b.dep < max (max (max 0 x.dep) y.dep) z.dep + 1; rcases h with rfl | rfl | rfl <;> omega
  | _ => cases h
theorem e6g {a b : AE} (h : b ∈ a.args) : b.sz < a.sz := by
  cases a with
  | bin op x y => simp [AE.args] at h; show b.sz < 1 + x.sz + y.sz; rcases h with rfl | rfl <;> omega
  | ite x y z => simp [AE.args] at h; show b.sz < 1 + x.sz + y.sz + z.sz; rcases h with rfl | rfl | rfl <;> omega
  | _ => cases h
theorem d5w (R : Ring_pensionref5_Depth) (L : List AE) (hR : ∀ a ∈ L, R.f_pensionref5_Depth a.e = some (a.dep : Int)) (e : Expr) (he : e.Args = L.map AE.e) (hl : L.length <= 3) (hd : ∀ a ∈ L, a.dep <= 1000) :
    a57 R e = some ((L.foldl (fun m a => max m a.dep) 0 + 1 : Nat) : Int) := by
  unfold a57
  have hb : ∀ (L : List AE) (m : Nat), m <= 1000 -> (∀ a ∈ L, a.dep <= 1000) -> L.foldl (fun m a => max m a.dep) m <= 1000 := by
    intro L
    induction L with
    | nil => intro m h _; exact h
    | cons a L ih => intro m h h2; exact ih (max m a.dep) (by have := h2 a (by simp); omega) fun x hx => h2 x (by simp [hx])
  refine p6 (fun i => (e, (((L.take i).foldl (fun m a => max m a.dep) 0 : Nat) : Int), (i : Int))) L.length ?_ ?_ (by have := a2s; omega)
  . intro i hi r
    unfold a7e
    have hlen : e.Args.length = L.length := by rw [he]; simp
    have hg : l8 e.Args (i : Int) = some (L[i].e) := by rw [a3i (by omega)]; simp [he]
    simp only [hlen, b8l hi, if_true, hg, Option.bind_some, hR _ (List.getElem_mem hi), a7h (show i <= 1000000 by omega)]
    rw [List.take_succ_eq_append_getElem hi, List.foldl_append]
    simp only [List.foldl_cons, List.foldl_nil]
    congr 3
    omega
  . intro r
    unfold a7e
    have hlen : e.Args.length = L.length := by rw [he]; simp
    simp only [hlen, a85, Bool.false_eq_true, if_false, List.take_length]
    have := hb L 0 (by omega) hd
    rw [a7h (by omega)]
theorem e2l : ∀ (a : AE), a.dep <= 1000 -> ∀ m, a.dep <= m -> (y4 m).f_pensionref5_Depth a.e = some (a.dep : Int) := by
  refine AE.ind fun a ih hd m hm => ?_
  obtain ⟨m, rfl⟩ : ∃ k, m = k + 1 := ⟨m - 1, by have := b7g a; omega⟩
  rw [e5c a]
  exact d5w _ a.args (fun b hb => ih b hb (by have := b23 hb; omega) m (by have := b23 hb; omega)) a.e (c5l a) (b6q a) fun b hb => by have := b23 hb; omega
theorem c5p : ∀ (L : List AE) (m : Nat), m <= L.foldl (fun m b => m + b.sz) m := by
  intro L
  induction L with
  | nil => intro m; exact Nat.le_refl _
  | cons a L ih => intro m; have := ih (m + a.sz); simp only [List.foldl_cons]; omega
theorem d6v (R : Ring_pensionref5_Size) (L : List AE) (hR : ∀ a ∈ L, R.f_pensionref5_Size a.e = some (a.sz : Int)) (e : Expr) (he : e.Args = L.map AE.e) (hl : L.length <= 3) (hd : L.foldl (fun m b => m + b.sz) 1 <= 1000) :
    a66 R e = some ((L.foldl (fun m a => m + a.sz) 1 : Nat) : Int) := by
  unfold a66
  refine p6 (fun i => (e, (((L.take i).foldl (fun m a => m + a.sz) 1 : Nat) : Int), (i : Int))) L.length ?_ ?_ (by have := a2s; omega)
  . intro i hi r
    unfold a7t
    have hlen : e.Args.length = L.length := by rw [he]; simp
    have hg : l8 e.Args (i : Int) = some (L[i].e) := by rw [a3i (by omega)]; simp [he]
    simp only [hlen, b8l hi, if_true, hg, Option.bind_some, hR _ (List.getElem_mem hi), a7h (show i <= 1000000 by omega)]
    have e0 : (L.take (i + 1)).foldl (fun m a => m + a.sz) 1 = (L.take i).foldl (fun m a => m + a.sz) 1 + L[i].sz := by
      rw [List.take_succ_eq_append_getElem hi, List.foldl_append]; rfl
    have hb : (L.take (i + 1)).foldl (fun m a => m + a.sz) 1 <= 1000 := by
      have h1 : L.foldl (fun m b => m + b.sz) 1 = (L.drop (i + 1)).foldl (fun m b => m + b.sz) ((L.take (i + 1)).foldl (fun m b => m + b.sz) 1) := by
        rw [<- List.foldl_append, List.take_append_drop]
      have := c5p (L.drop (i + 1)) ((L.take (i + 1)).foldl (fun m b => m + b.sz) 1)
      omega
    rw [e0] at hb ⊢
    rw [i8 (by omega) (by omega)]
    congr 3
  . intro r
    unfold a7t
    have hlen : e.Args.length = L.length := by rw [he]; simp
    simp only [hlen, a85, Bool.false_eq_true, if_false, List.take_length]
theorem e8b : ∀ (a : AE), a.sz <= 1000 -> ∀ m, a.dep <= m -> (a01 m).f_pensionref5_Size a.e = some (a.sz : Int) := by
  refine AE.ind fun a ih hd m hm => ?_
  obtain ⟨m, rfl⟩ : ∃ k, m = k + 1 := ⟨m - 1, by have := b7g a; omega⟩
  rw [e4s a] at hd ⊢
  exact d6v _ a.args (fun b hb => ih b hb (by have := e6g hb; rw [e4s a] at this; omega) m (by have := b23 hb; omega)) a.e (c5l a) (b6q a) hd
theorem d0u (R : Ring_syntax_Depth) (L : List AE) (hR : ∀ a ∈ L, R.f_syntax_Depth a.e = some (a.dep : Int)) (e : Expr) (he : e.Args = L.map AE.e) (hl : L.length <= 3) (hd : ∀ a ∈ L, a.dep <= 1000) :
    b00 R e = some ((L.foldl (fun m a => max m a.dep) 0 + 1 : Nat) : Int) := by
  unfold b00
  have hb : ∀ (L : List AE) (m : Nat), m <= 1000 -> (∀ a ∈ L, a.dep <= 1000) -> L.foldl (fun m a => max m a.dep) m <= 1000 := by
    intro L
    induction L with
    | nil => intro m h _; exact h
    | cons a L ih => intro m h h2; exact ih (max m a.dep) (by have := h2 a (by simp); omega) fun x hx => h2 x (by simp [hx])
  refine p6 (fun i => ((((L.take i).foldl (fun m a => max m a.dep) 0 : Nat) : Int), (i : Int))) L.length ?_ ?_ (by have := a2s; omega)
  . intro i hi r
    unfold b1y
    have hlen : e.Args.length = L.length := by rw [he]; simp
    have hg : l8 e.Args (i : Int) = some (L[i].e) := by rw [a3i (by omega)]; simp [he]
    simp only [hlen, b8l hi, if_true, hg, Option.bind_some, hR _ (List.getElem_mem hi), a7h (show i <= 1000000 by omega)]
    rw [List.take_succ_eq_append_getElem hi, List.foldl_append]
    simp only [List.foldl_cons, List.foldl_nil]
    congr 2
    omega
  . intro r
    unfold b1y
    have hlen : e.Args.length = L.length := by rw [he]; simp
    simp only [hlen, a85, Bool.false_eq_true, if_false, List.take_length]
    have := hb L 0 (by omega) hd
    rw [a7h (by omega)]
theorem d9p : ∀ (a : AE), a.dep <= 1000 -> ∀ m, a.dep <= m -> (a1b m).f_syntax_Depth a.e = some (a.dep : Int) := by
  refine AE.ind fun a ih hd m hm => ?_
  obtain ⟨m, rfl⟩ : ∃ k, m = k + 1 := ⟨m - 1, by have := b7g a; omega⟩
  rw [e5c a]
  exact d0u _ a.args (fun b hb => ih b hb (by have := b23 hb; omega) m (by have := b23 hb; omega)) a.e (c5l a) (b6q a) fun b hb => by have := b23 hb; omega
theorem d4m (R : Ring_syntax_Size) (L : List AE) (hR : ∀ a ∈ L, R.f_syntax_Size a.e = some (a.sz : Int)) (e : Expr) (he : e.Args = L.map AE.e) (hl : L.length <= 3) (hd : L.foldl (fun m b => m + b.sz) 1 <= 1000) :
    b1m R e = some ((L.foldl (fun m a => m + a.sz) 1 : Nat) : Int) := by
  unfold b1m
  refine p6 (fun i => ((((L.take i).foldl (fun m a => m + a.sz) 1 : Nat) : Int), (i : Int))) L.length ?_ ?_ (by have := a2s; omega)
  . intro i hi r
    unfold b3j
    have hlen : e.Args.length = L.length := by rw [he]; simp
    have hg : l8 e.Args (i : Int) = some (L[i].e) := by rw [a3i (by omega)]; simp [he]
    simp only [hlen, b8l hi, if_true, hg, Option.bind_some, hR _ (List.getElem_mem hi), a7h (show i <= 1000000 by omega)]
    have e0 : (L.take (i + 1)).foldl (fun m a => m + a.sz) 1 = (L.take i).foldl (fun m a => m + a.sz) 1 + L[i].sz := by
      rw [List.take_succ_eq_append_getElem hi, List.foldl_append]; rfl
    have hb : (L.take (i + 1)).foldl (fun m a => m + a.sz) 1 <= 1000 := by
      have h1 : L.foldl (fun m b => m + b.sz) 1 = (L.drop (i + 1)).foldl (fun m b => m + b.sz) ((L.take (i + 1)).foldl (fun m b => m + b.sz) 1) := by
        rw [<- List.foldl_append, List.take_append_drop]
      have := c5p (L.drop (i + 1)) ((L.take (i + 1)).foldl (fun m b => m + b.sz) 1)
      omega
    rw [e0] at hb ⊢
    rw [i8 (by omega) (by omega)]
    congr 2
  . intro r
    unfold b3j
    have hlen : e.Args.length = L.length := by rw [he]; simp
    simp only [hlen, a85, Bool.false_eq_true, if_false, List.take_length]
theorem e3b : ∀ (a : AE), a.sz <= 1000 -> ∀ m, a.dep <= m -> (a21 m).f_syntax_Size a.e = some (a.sz : Int) := by
  refine AE.ind fun a ih hd m hm => ?_
  obtain ⟨m, rfl⟩ : ∃ k, m = k + 1 := ⟨m - 1, by have := b7g a; omega⟩
  rw [e4s a] at hd ⊢
  exact d4m _ a.args (fun b hb => ih b hb (by have := e6g hb; rw [e4s a] at this; omega) m (by have := b23 hb; omega)) a.e (c5l a) (b6q a) hd
def AE.leafOK : AE -> Prop
  | .lit v d => (∃ s, p8 v d = some (s, true)) /\ ∃ s, a04 v d = some (s, true)
  | .nm s => s5 s = some true /\ a4b s = some true
  | .best k => 1 <= k /\ k <= 45
  | .bin op _ _ => 7 <= op /\ op <= 20
  | .ite _ _ _ => True
inductive AE.ok : AE -> Prop
  | mk {a : AE} : a.leafOK -> (∀ b ∈ a.args, b.ok) -> a.ok
theorem AE.ok.leaf {a : AE} (h : a.ok) : a.leafOK := by cases h; assumption
theorem AE.ok.arg {a b : AE} (h : a.ok) (hb : b ∈ a.args) : b.ok := by cases h; rename_i h1 h2; exact h2 b hb
theorem d1s (R : Ring_pensionref5_formed) (L : List AE) (hR : ∀ a ∈ L, R.f_pensionref5_formed a.e = some true) (e : Expr) (he : e.Args = L.map AE.e) (hl : L.length <= 3) : d9 FU (a4e R true) (e, 0) = some true := by
  refine p6 (fun i => (e, (i : Int))) L.length ?_ ?_ (by have := a2s; omega)
  . intro i hi r
    unfold a4e
    have hlen : e.Args.length = L.length := by rw [he]; simp
    have hg : l8 e.Args (i : Int) = some (L[i].e) := by rw [a3i (by omega)]; simp [he]
    simp only [hlen, b8l hi, if_true, hg, Option.bind_some, hR _ (List.getElem_mem hi), a7h (show i <= 1000000 by omega), Bool.not_true, Bool.false_eq_true, if_false]
  . intro r
    unfold a4e
    have hlen : e.Args.length = L.length := by rw [he]; simp
    simp only [hlen, a85, Bool.false_eq_true, if_false]
theorem d7d {op : Int} (h1 : 7 <= op) (h2 : op <= 20) : a0k op = some 2 := by
  unfold a0k
  have e1 : decide (op >= 1) = true := by simp; omega
  have e2 : decide (op <= 3) = false := by simp; omega
  have e3 : decide (op >= 4) = true := by simp; omega
  have e4 : decide (op <= 6) = false := by simp; omega
  have e5 : decide (op >= 7) = true := by simp; omega
  have e6 : decide (op <= 20) = true := by simp; omega
  simp only [e1, e2, e3, e4, e5, e6, if_true, Option.bind_some, Bool.false_eq_true, if_false]
theorem d7o {op : Int} (h1 : 7 <= op) (h2 : op <= 20) : a50 op = some 2 := by
  unfold a50
  have e1 : (op == 1) = false := by simp; omega
  have e2 : (op == 2) = false := by simp; omega
  have e3 : (op == 3) = false := by simp; omega
  have e4 : (op == 4) = false := by simp; omega
  have e5 : (op == 5) = false := by simp; omega
  have e6 : (op == 6) = false := by simp; omega
  have e7 : decide (op >= 7) = true := by simp; omega
  have e8 : decide (op <= 20) = true := by simp; omega
  simp only [e1, e2, e3, e4, e5, e6, e7, e8, if_true, Option.bind_some, Bool.false_eq_true, if_false]
theorem f7w {c : Bool} {x : Bool} : ∃ b, (if c = true then some x else some false) = some b := by cases c <;> exact ⟨_, rfl⟩
theorem d6j : ∀ (a : AE), a.ok -> ∀ m, a.dep <= m -> (i7 m).f_pensionref5_formed a.e = some true := by
  refine AE.ind fun a ih hok m hm => ?_
  obtain ⟨m, rfl⟩ : ∃ k, m = k + 1 := ⟨m - 1, by have := b7g a; omega⟩
  have hR : ∀ b ∈ a.args, (i7 m).f_pensionref5_formed b.e = some true := fun b hb => ih b hb (hok.arg hb) m (by have := b23 hb; omega)
  have hlf := hok.leaf
  show p3 (i7 m) a.e = some true
  have hfin := d1s (i7 m) a.args hR a.e (c5l a) (b6q a)
  cases a with
  | lit v d =>
    show p3 (i7 m) ⟨1, v, d, a1f, []⟩ = some true
    unfold p3
    obtain ⟨⟨s, hs⟩, _⟩ := hlf
    obtain ⟨b1, h1⟩ := f7w (c := (v.Num == 0) && ((v.Den == 0) && true)) (x := d == 0)
    simp only [show a0k 1 = some 0 from by kernel_rfl, Option.bind_some, List.length_nil, hs, BEq.rfl, if_true, show (((0 : Nat) : Int) != 0) = false from rfl, Bool.false_eq_true, if_false]
    rw [h1, Option.bind_some]
    cases b1 <;> rfl
  | nm s =>
    show p3 (i7 m) ⟨2, ⟨0, 0⟩, 0, s, []⟩ = some true
    unfold p3
    simp only [show a0k 2 = some 0 from by kernel_rfl, Option.bind_some, List.length_nil, BEq.rfl, Bool.and_true, if_true, hlf.1, show ((2 : Int) == 1) = false from rfl, Bool.false_eq_true, if_false]
    rfl
  | best k =>
    show p3 (i7 m) ⟨3, ⟨k, 1⟩, 0, a1f, []⟩ = some true
    unfold p3
    have e1 : decide (k >= 1) = true := by simp; exact hlf.1
    have e2 : decide (k <= 45) = true := by simp; exact hlf.2
    simp only [show (((0 : Nat) : Int) != 0) = false from rfl, show a0k 3 = some 0 from by kernel_rfl, Option.bind_some, List.length_nil, BEq.rfl, Bool.and_true, if_true, show ((3 : Int) == 1) = false from rfl, show ((3 : Int) == 2) = false from rfl, show ((1 : Int) == 0) = false from rfl, Bool.and_false, Bool.false_and, Bool.false_eq_true, if_false, e1, e2]
  | bin op x y =>
    show p3 (i7 m) ⟨op, ⟨0, 0⟩, 0, a1f, [x.e, y.e]⟩ = some true
    unfold p3
    have o1 : (op == 1) = false := by have := hlf.1; simp; omega
    have o2 : (op == 2) = false := by have := hlf.1; simp; omega
    have o3 : (op == 3) = false := by have := hlf.1; simp; omega
    simp only [d7d hlf.1 hlf.2, Option.bind_some, List.length_cons, List.length_nil, BEq.rfl, Bool.and_true, if_true, o1, o2, o3, Bool.false_eq_true, if_false]
    exact hfin
  | ite x y z =>
    show p3 (i7 m) ⟨21, ⟨0, 0⟩, 0, a1f, [x.e, y.e, z.e]⟩ = some true
    unfold p3
    simp only [show a0k 21 = some 3 from by kernel_rfl, Option.bind_some, List.length_cons, List.length_nil, BEq.rfl, Bool.and_true, if_true, show ((21 : Int) == 1) = false from rfl, show ((21 : Int) == 2) = false from rfl, show ((21 : Int) == 3) = false from rfl, Bool.false_eq_true, if_false]
    exact hfin
end Go.PL
namespace Go.PL
open Go Go.SX
theorem e98 {a : AE} (h : a.leafOK) : a2c a.e = some true := by
  cases a with
  | lit v d =>
    show a2c ⟨1, v, d, a1f, []⟩ = some true
    unfold a2c
    obtain ⟨_, s, hs⟩ := h
    simp only [show a50 1 = some 0 from by kernel_rfl, Option.bind_some, List.length_nil, hs, BEq.rfl, if_true, show (((0 : Nat) : Int) != 0) = false from rfl, Bool.false_eq_true, if_false]
  | nm s =>
    show a2c ⟨2, ⟨0, 0⟩, 0, s, []⟩ = some true
    unfold a2c
    simp only [show a50 2 = some 0 from by kernel_rfl, Option.bind_some, List.length_nil, h.2, BEq.rfl, Bool.and_true, if_true, show (((0 : Nat) : Int) != 0) = false from rfl, show ((2 : Int) == 1) = false from rfl, Bool.false_eq_true, if_false]
  | best k =>
    show a2c ⟨3, ⟨k, 1⟩, 0, a1f, []⟩ = some true
    unfold a2c
    have e1 : decide (k >= 1) = true := by simp; exact h.1
    have e2 : decide (k <= 45) = true := by simp; exact h.2
    simp only [show a50 3 = some 0 from by kernel_rfl, Option.bind_some, List.length_nil, BEq.rfl, if_true, show (((0 : Nat) : Int) != 0) = false from rfl, show ((3 : Int) == 1) = false from rfl, show ((3 : Int) == 2) = false from rfl, Bool.false_eq_true, if_false, e1, e2]
  | bin op x y =>
    show a2c ⟨op, ⟨0, 0⟩, 0, a1f, [x.e, y.e]⟩ = some true
    unfold a2c
    have o1 : (op == 1) = false := by have := h.1; simp; omega
    have o2 : (op == 2) = false := by have := h.1; simp; omega
    have o3 : (op == 3) = false := by have := h.1; simp; omega
    simp only [d7o h.1 h.2, Option.bind_some, List.length_cons, List.length_nil, BEq.rfl, Bool.and_true, if_true, o1, o2, o3, Bool.false_eq_true, if_false]
    rfl
  | ite x y z =>
    show a2c ⟨21, ⟨0, 0⟩, 0, a1f, [x.e, y.e, z.e]⟩ = some true
    unfold a2c
    simp only [show a50 21 = some 3 from by kernel_rfl, Option.bind_some, List.length_cons, List.length_nil, BEq.rfl, Bool.and_true, if_true, show ((21 : Int) == 1) = false from rfl, show ((21 : Int) == 2) = false from rfl, show ((21 : Int) == 3) = false from rfl, Bool.false_eq_true, if_false]
    rfl
theorem d8f (R : Ring_syntax_form) (L : List AE) (hR : ∀ a ∈ L, R.f_syntax_form_1 a.e = some false) (hl : L.length <= 3) : m6 R (L.map AE.e) = some (-1) := by
  unfold m6
  refine p6 (fun i => (i : Int)) L.length ?_ ?_ (by have := a2s; omega)
  . intro i hi r
    unfold w9
    have hg : l8 (L.map AE.e) (i : Int) = some (L[i].e) := by rw [a3i (by simpa using hi)]; simp
    simp only [List.length_map, b8l hi, if_true, hg, Option.bind_some, hR _ (List.getElem_mem hi), a7h (show i <= 1000000 by omega), Bool.false_eq_true, if_false]
  . intro r
    unfold w9
    simp only [List.length_map, a85, Bool.false_eq_true, if_false]
theorem e7t : ∀ (a : AE), a.ok -> ∀ m, 4 * a.dep <= m -> (d7 m).f_syntax_form a.e = some true := by
  refine AE.ind fun a ih hok m hm => ?_
  obtain ⟨m, rfl⟩ : ∃ k, m = k + 1 + 1 + 1 + 1 := ⟨m - 4, by have := b7g a; omega⟩
  have hR : ∀ b ∈ a.args, (d7 (m + 1)).f_syntax_form_1 b.e = some false := fun b hb => by
    show a8p (d7 m) b.e = some false
    unfold a8p
    rw [ih b hb (hok.arg hb) m (by have := b23 hb; omega)]
    rfl
  have hloop := d8f (d7 (m + 1)) a.args hR (b6q a)
  have hC : (d7 (m + 1 + 1 + 1)).f_slices_ContainsFunc_of_api_Expr a.e.Args = some false := by
    show p5 (d7 (m + 1 + 1)) a.e.Args = some false
    unfold p5
    show (m6 (d7 (m + 1)) a.e.Args).bind _ = _
    rw [c5l, hloop]
    rfl
  show b1l (d7 (m + 1 + 1 + 1)) a.e = some true
  unfold b1l
  rw [e98 hok.leaf, Option.bind_some]
  simp only [if_true, hC, Option.bind_some, Bool.not_false]
theorem c6j {a : AE} (h : a.ok) (hd : a.dep <= 10) (hs : a.sz <= 60) : u9 a.e = some true := by
  unfold u9 b3r b5e b31
  have hf := a2s
  rw [e2l a (by omega) FU (by omega), e8b a (by omega) FU (by omega), d6j a h FU (by omega), Option.bind_some]
  have e1 : decide ((a.dep : Int) <= 10) = true := by simp; omega
  have e2 : decide ((a.sz : Int) <= 60) = true := by simp; omega
  simp only [e1, e2, if_true, Option.bind_some]
theorem b64 {a : AE} (h : a.ok) (hd : a.dep <= 10) (hs : a.sz <= 60) : a09 a.e = some true := by
  unfold a09 c0t c40 c3b
  have hf := a2s
  rw [d9p a (by omega) FU (by omega), e3b a (by omega) FU (by omega), e7t a h FU (by omega), Option.bind_some]
  have e1 : decide ((a.dep : Int) <= 10) = true := by simp; omega
  have e2 : decide ((a.sz : Int) <= 60) = true := by simp; omega
  simp only [e1, e2, if_true, Option.bind_some]
def okD (o : Option (Int × Bool)) : Option Int := o.bind fun x => if x.2 then some x.1 else none
theorem e7e {o : Option (Int × Bool)} {d : Int} (h : okD o = some d) : o = some (d, true) := by
  cases o with
  | none => cases h
  | some x =>
    obtain ⟨y, b⟩ := x
    cases b with
    | false => cases h
    | true => injection h with h; subst h; rfl
def AE.inf (env : List Binding) : AE -> Option Int
  | .lit _ d => some d
  | .best _ => some 4
  | .nm s => okD (a55 s env)
  | .bin op a b => (a.inf env).bind fun x => (b.inf env).bind fun y => okD (a89 op [x, y])
  | .ite a b c => (a.inf env).bind fun x => (b.inf env).bind fun y => (c.inf env).bind fun z => okD (a89 21 [x, y, z])
theorem c4n (R : Ring_typing_infer) (env : List Binding) (e : Expr) (L : List AE) (ds : List Int) (he : e.Args = L.map AE.e) (hl : L.length <= 3) (hds : ds.length = L.length) {d : Int} (ht : okD (a89 e.Op ds) = some d)
    (hR : ∀ i (h : i < L.length), R.f_typing_infer L[i].e env = some (ds[i]'(by omega), 0)) : d9 FU (a88 R e env) (e, [], 0) = some (d, 0) := by
  refine p6 (fun i => (e, ds.take i, (i : Int))) L.length ?_ ?_ (by have := a2s; omega)
  . intro i hi r
    unfold a88
    have hlen : e.Args.length = L.length := by rw [he]; simp
    have hg : l8 e.Args (i : Int) = some (L[i].e) := by rw [a3i (by omega)]; simp [he]
    simp only [hlen, b8l hi, if_true, hg, Option.bind_some, hR i hi, show ((0 : Int) != 0) = false from rfl, Bool.false_eq_true, if_false, b13 (show (ds.take i).length <= 1000 by simp; omega) (show 8 <= 1000 by decide), a7h (show i <= 1000000 by omega)]
    rw [List.take_succ_eq_append_getElem (by omega)]
  . intro r
    unfold a88
    have hlen : e.Args.length = L.length := by rw [he]; simp
    simp only [hlen, a85, Bool.false_eq_true, if_false]
    rw [show ds.take L.length = ds by rw [<- hds, List.take_length], e7e ht]
    rfl
theorem e3v (env : List Binding) : ∀ (a : AE), a.ok -> ∀ d, a.inf env = some d -> ∀ m, a.dep <= m -> (s4 m).f_typing_infer a.e env = some (d, 0) := by
  refine AE.ind fun a ih hok d hd m hm => ?_
  obtain ⟨m, rfl⟩ : ∃ k, m = k + 1 := ⟨m - 1, by have := b7g a; omega⟩
  have hR : ∀ b ∈ a.args, ∀ d, b.inf env = some d -> (s4 m).f_typing_infer b.e env = some (d, 0) := fun b hb d hd => ih b hb (hok.arg hb) d hd m (by have := b23 hb; omega)
  show a2m (s4 m) a.e env = some (d, 0)
  have hlf := hok.leaf
  cases a with
  | lit v d2 => injection hd with hd; subst hd; rfl
  | nm s =>
    have hd : okD (a55 s env) = some d := hd
    show a2m (s4 m) ⟨2, ⟨0, 0⟩, 0, s, []⟩ env = some (d, 0)
    unfold a2m
    simp only [show ((2 : Int) == 1) = false from rfl, show ((2 : Int) == 3) = false from rfl, Bool.false_eq_true, if_false, BEq.rfl, if_true, e7e hd, Option.bind_some, Bool.not_true]
  | best k => injection hd with hd; subst hd; rfl
  | bin op x y =>
    obtain ⟨dx, hx, hd⟩ := Option.bind_eq_some_iff.1 hd
    obtain ⟨dy, hy, hd⟩ := Option.bind_eq_some_iff.1 hd
    show a2m (s4 m) ⟨op, ⟨0, 0⟩, 0, a1f, [x.e, y.e]⟩ env = some (d, 0)
    unfold a2m
    have o1 : (op == 1) = false := by have := hlf.1; simp; omega
    have o2 : (op == 2) = false := by have := hlf.1; simp; omega
    have o3 : (op == 3) = false := by have := hlf.1; simp; omega
    simp only [o1, o2, o3, Bool.false_eq_true, if_false]
    refine c4n _ env _ [x, y] [dx, dy] rfl (by simp) rfl hd fun i hi => ?_
    have hi : i < 2 := hi
    match i, hi with
    | 0, _ => exact hR x (by simp [AE.args]) dx hx
    | 1, _ => exact hR y (by simp [AE.args]) dy hy
  | ite x y z =>
    obtain ⟨dx, hx, hd⟩ := Option.bind_eq_some_iff.1 hd
    obtain ⟨dy, hy, hd⟩ := Option.bind_eq_some_iff.1 hd
    obtain ⟨dz, hz, hd⟩ := Option.bind_eq_some_iff.1 hd
    show a2m (s4 m) ⟨21, ⟨0, 0⟩, 0, a1f, [x.e, y.e, z.e]⟩ env = some (d, 0)
    unfold a2m
    simp only [show ((21 : Int) == 1) = false from rfl, show ((21 : Int) == 2) = false from rfl, show ((21 : Int) == 3) = false from rfl, Bool.false_eq_true, if_false]
    refine c4n _ env _ [x, y, z] [dx, dy, dz] rfl (by simp) rfl hd fun i hi => ?_
    have hi : i < 3 := hi
    match i, hi with
    | 0, _ => exact hR x (by simp [AE.args]) dx hx
    | 1, _ => exact hR y (by simp [AE.args]) dy hy
    | 2, _ => exact hR z (by simp [AE.args]) dz hz
def d0a (env : List Binding) : Prop := env.length <= 1000 /\ ∀ b ∈ env, 1 <= b.Dim /\ b.Dim <= 4
theorem c8f {env : List Binding} (h : d0a env) : o4 env = some false := by
  unfold o4 w6
  have : d9 FU (o5 env) ((0 : Nat) : Int) = some (-1) := by
    refine p6 (fun i => (i : Int)) env.length ?_ ?_ (by have := a2s; have := h.1; omega)
    . intro i hi r
      unfold o5 b3f
      have hb := h.2 _ (List.getElem_mem hi)
      have e1 : decide (env[i].Dim < 1) = false := by simp; omega
      have e2 : decide (env[i].Dim > 4) = false := by simp; omega
      have := h.1
      simp only [b8l hi, if_true, a3i hi, Option.bind_some, e1, e2, Bool.false_eq_true, if_false, a7h (show i <= 1000000 by omega)]
    . intro r
      unfold o5
      simp only [a85, Bool.false_eq_true, if_false]
  rw [show (0 : Int) = ((0 : Nat) : Int) from rfl, this]
  rfl
theorem c5w {env : List Binding} (henv : d0a env) {a : AE} (h : a.ok) (hd : a.dep <= 10) (hs : a.sz <= 60) {d : Int} (hi : a.inf env = some d) : b0f a.e env = some (d, 0) := by
  unfold b0f
  have hf := a2s
  simp only [b64 h hd hs, Option.bind_some, Bool.not_true, Bool.false_eq_true, if_false, c8f henv, show c14 a.e env = some (d, 0) from e3v env a h d hi FU (by omega)]
theorem f7p {env : List Binding} (henv : d0a env) {a : AE} (h : a.ok) (hd : a.dep <= 10) (hs : a.sz <= 60) {d : Int} (hi : a.inf env = some d) : b24 a.e env d = some 0 := by
  unfold b24
  simp only [c5w henv h hd hs hi, Option.bind_some, show ((0 : Int) != 0) = false from rfl, Bool.false_eq_true, if_false, bne_self_eq_false]
end Go.PL
namespace Go.PL
open Go Go.SX
def nz (o : Option ByteArray) : Bool := match o with | some w => !(w.toList == a1f.toList) | none => false
theorem d21 {o : Option ByteArray} (h : nz o = true) : ∃ w, o = some w /\ (w.toList == a1f.toList) = false := by
  cases o with
  | none => cases h
  | some w => exact ⟨w, rfl, by simpa [nz] using h⟩
def e6r : List syntax_entry := (b2v).getD []
def c7q : List syntax_entry := (a6l).getD []
def d3x : List syntax_entry := (b2l).getD []
theorem e25 : b2v = some e6r := rfl
theorem c3x : a6l = some c7q := rfl
theorem e43 : b2l = some d3x := rfl
structure CrOK (c : Credit) : Prop where
  w5 : nz (a2v c.Kind 1) = true
  wS : nz (a13 e6r c.Kind) = true
  l0 : 0 <= c.Limit
  l1 : c.Limit <= 73049
structure IxOK (x : Index) : Prop where
  y0 : 1900 <= x.Year
  y1 : x.Year <= 2099
  n : 1 <= x.Factor.Num
  f5 : ∃ s, p8 x.Factor 2 = some (s, true)
  fS : ∃ s, a04 x.Factor 2 = some (s, true)
structure ExOK (env : List Binding) (e : Expr) (d : Int) : Prop where
  ex : ∃ a : AE, e = a.e /\ a.ok /\ a.dep <= 10 /\ a.sz <= 60 /\ a.inf env = some d
structure BnOK (b : Int) : Prop where
  w5 : nz (a2v b 2) = true
  wS : nz (a13 c7q b) = true
structure VOK (env : List Binding) (v : Version) : Prop where
  f0 : 0 <= v.From
  f1 : v.From <= 73048
  m0 : 1 <= v.Rounding.Mode
  m1 : v.Rounding.Mode <= 4
  mS : nz (a13 d3x v.Rounding.Mode) = true
  u0 : 1 <= v.Rounding.Unit
  u1 : v.Rounding.Unit <= 100000
  cl : v.Credits.length <= 6
  sl : v.Series.length <= 20
  ll : v.Lets.length <= 10
  gl : v.Grants.length <= 5
  rl : v.Reduces.length <= 5
  cr : ∀ c ∈ v.Credits, CrOK c
  crp : v.Credits.Pairwise fun a b => a.Kind ≠ b.Kind
  ix : ∀ x ∈ v.Series, IxOK x
  ixp : v.Series.Pairwise fun a b => a.Year < b.Year
  lt : ∀ x ∈ v.Lets, s5 x.Name = some true /\ a4b x.Name = some true /\ u9 x.Body = some true /\ a09 x.Body = some true
  ls : b2c v.Lets = some (env, 0)
  en : d0a env
  gr : ∀ g ∈ v.Grants, BnOK g.Benefit /\ ExOK env g.If 1 /\ ExOK env g.Pay 4
  grp : v.Grants.Pairwise fun a b => a.Benefit ≠ b.Benefit
  rd : ∀ r ∈ v.Reduces, BnOK r.Benefit /\ ExOK env r.By 2
  rdp : v.Reduces.Pairwise fun a b => a.Benefit ≠ b.Benefit
theorem ExOK.v5 {env : List Binding} {e : Expr} {d : Int} (h : ExOK env e d) : u9 e = some true := by
  obtain ⟨a, rfl, h1, h2, h3, _⟩ := h.ex
  exact c6j h1 h2 h3
theorem ExOK.vS {env : List Binding} {e : Expr} {d : Int} (h : ExOK env e d) : a09 e = some true := by
  obtain ⟨a, rfl, h1, h2, h3, _⟩ := h.ex
  exact b64 h1 h2 h3
theorem ExOK.of {env : List Binding} (hen : d0a env) {e : Expr} {d : Int} (h : ExOK env e d) : b24 e env d = some 0 := by
  obtain ⟨a, rfl, h1, h2, h3, h4⟩ := h.ex
  exact f7p hen h1 h2 h3 h4
section
variable {env : List Binding} {v : Version}
theorem e2e (h : VOK env v) : a2x v = some true := by
  have hf := a2s
  have l5 : d9 FU a1n (v, 0) = some true := by
    refine p6 (fun i => (v, (i : Int))) v.Reduces.length ?_ ?_ (by have := h.rl; omega)
    . intro i hi r
      have hc := h.rd _ (List.getElem_mem hi)
      obtain ⟨w, h1, h2⟩ := d21 hc.1.w5
      have := h.rl
      unfold a1n
      simp only [b8l hi, if_true, a3i hi, Option.bind_some, h1, h2, hc.2.v5, Bool.not_true, Bool.false_eq_true, if_false, a7h (show i <= 1000000 by omega)]
    . intro r
      unfold a1n
      simp only [a85, Bool.false_eq_true, if_false]
  have l4 : d9 FU a1g (v, 0) = some true := by
    refine p6 (fun i => (v, (i : Int))) v.Grants.length ?_ ?_ (by have := h.gl; omega)
    . intro i hi r
      have hc := h.gr _ (List.getElem_mem hi)
      obtain ⟨w, h1, h2⟩ := d21 hc.1.w5
      have := h.gl
      unfold a1g
      simp only [b8l hi, if_true, a3i hi, Option.bind_some, h1, h2, hc.2.1.v5, hc.2.2.v5, Bool.not_true, Bool.false_eq_true, if_false, a7h (show i <= 1000000 by omega)]
    . intro r
      unfold a1g
      simp only [a85, Bool.false_eq_true, if_false]
      exact l5
  have l3 : d9 FU a1q (v, 0) = some true := by
    refine p6 (fun i => (v, (i : Int))) v.Lets.length ?_ ?_ (by have := h.ll; omega)
    . intro i hi r
      have hc := h.lt _ (List.getElem_mem hi)
      have := h.ll
      unfold a1q
      simp only [b8l hi, if_true, a3i hi, Option.bind_some, hc.1, hc.2.2.1, Bool.not_true, Bool.false_eq_true, if_false, a7h (show i <= 1000000 by omega)]
    . intro r
      unfold a1q
      simp only [a85, Bool.false_eq_true, if_false]
      exact l4
  have l2 : d9 FU a1p (v, 0) = some true := by
    refine p6 (fun i => (v, (i : Int))) v.Series.length ?_ ?_ (by have := h.sl; omega)
    . intro i hi r
      have hc := h.ix _ (List.getElem_mem hi)
      obtain ⟨s, hs⟩ := hc.f5
      have := h.sl
      have e1 : decide (v.Series[i].Year < 1900) = false := by have := hc.y0; simp; omega
      have e2 : decide (v.Series[i].Year > 2099) = false := by have := hc.y1; simp; omega
      have e3 : decide (v.Series[i].Factor.Num < 1) = false := by have := hc.n; simp; omega
      unfold a1p
      simp only [b8l hi, if_true, a3i hi, Option.bind_some, hs, e1, e2, e3, Bool.not_true, Bool.false_eq_true, if_false, a7h (show i <= 1000000 by omega)]
    . intro r
      unfold a1p
      simp only [a85, Bool.false_eq_true, if_false]
      exact l3
  have l1 : d9 FU a1h (v, 0) = some true := by
    refine p6 (fun i => (v, (i : Int))) v.Credits.length ?_ ?_ (by have := h.cl; omega)
    . intro i hi r
      have hc := h.cr _ (List.getElem_mem hi)
      obtain ⟨w, h1, h2⟩ := d21 hc.w5
      have := h.cl
      have e1 : decide (v.Credits[i].Limit < 0) = false := by have := hc.l0; simp; omega
      have e2 : decide (v.Credits[i].Limit > 73049) = false := by have := hc.l1; simp; omega
      unfold a1h
      simp only [b8l hi, if_true, a3i hi, Option.bind_some, h1, h2, e1, e2, Bool.not_true, Bool.false_eq_true, if_false, a7h (show i <= 1000000 by omega)]
    . intro r
      unfold a1h
      simp only [a85, Bool.false_eq_true, if_false]
      exact l2
  unfold a2x a1v a4m
  have d1 : decide (v.From >= 0) = true := by have := h.f0; simp; omega
  have d2 : decide (v.From <= 73048) = true := by have := h.f1; simp; omega
  have d3 : decide (v.Rounding.Mode >= 1) = true := by have := h.m0; simp; omega
  have d4 : decide (v.Rounding.Mode <= 4) = true := by have := h.m1; simp; omega
  have d5 : decide (v.Rounding.Unit >= 1) = true := by have := h.u0; simp; omega
  have d6 : decide (v.Rounding.Unit <= 100000) = true := by have := h.u1; simp; omega
  have n1 : decide ((v.Credits.length : Int) > 6) = false := by have := h.cl; simp; omega
  have n2 : decide ((v.Series.length : Int) > 20) = false := by have := h.sl; simp; omega
  have n3 : decide ((v.Lets.length : Int) > 10) = false := by have := h.ll; simp; omega
  have n4 : decide ((v.Grants.length : Int) > 5) = false := by have := h.gl; simp; omega
  have n5 : decide ((v.Reduces.length : Int) > 5) = false := by have := h.rl; simp; omega
  simp only [d1, d2, d3, d4, d5, d6, n1, n2, n3, n4, n5, if_true, Option.bind_some, Bool.not_true, Bool.false_eq_true, if_false]
  exact l1
theorem e3g (h : VOK env v) : a5e v = some true := by
  have hf := a2s
  have l5 : joinC a5t v = some true := by
    unfold joinC a5t
    refine p6 (fun i => (i : Int)) v.Reduces.length ?_ ?_ (by have := h.rl; omega)
    . intro i hi r
      have hc := h.rd _ (List.getElem_mem hi)
      obtain ⟨w, h1, h2⟩ := d21 hc.1.wS
      have := h.rl
      unfold a5w
      simp only [b8l hi, if_true, a3i hi, Option.bind_some, c3x, h1, h2, hc.2.vS, Bool.not_true, Bool.false_eq_true, if_false, a7h (show i <= 1000000 by omega)]
    . intro r
      unfold a5w
      simp only [a85, Bool.false_eq_true, if_false]
  have l4 : joinC a5s v = some true := by
    unfold joinC a5s
    refine p6 (fun i => (v, (i : Int))) v.Grants.length ?_ ?_ (by have := h.gl; omega)
    . intro i hi r
      have hc := h.gr _ (List.getElem_mem hi)
      obtain ⟨w, h1, h2⟩ := d21 hc.1.wS
      have := h.gl
      unfold a60
      simp only [b8l hi, if_true, a3i hi, Option.bind_some, c3x, h1, h2, hc.2.1.vS, hc.2.2.vS, Bool.not_true, Bool.false_eq_true, if_false, a7h (show i <= 1000000 by omega)]
    . intro r
      unfold a60
      simp only [a85, Bool.false_eq_true, if_false]
      exact l5
  have l3 : joinC a5q v = some true := by
    unfold joinC a5q
    refine p6 (fun i => (v, (i : Int))) v.Lets.length ?_ ?_ (by have := h.ll; omega)
    . intro i hi r
      have hc := h.lt _ (List.getElem_mem hi)
      have := h.ll
      unfold a5u
      simp only [b8l hi, if_true, a3i hi, Option.bind_some, hc.2.1, hc.2.2.2, Bool.not_true, Bool.false_eq_true, if_false, a7h (show i <= 1000000 by omega)]
    . intro r
      unfold a5u
      simp only [a85, Bool.false_eq_true, if_false]
      exact l4
  have l2 : joinC a5x v = some true := by
    unfold joinC a5x
    refine p6 (fun i => (v, (i : Int))) v.Series.length ?_ ?_ (by have := h.sl; omega)
    . intro i hi r
      have hc := h.ix _ (List.getElem_mem hi)
      obtain ⟨s, hs⟩ := hc.fS
      have := h.sl
      have e1 : decide (v.Series[i].Year >= 1900) = true := by have := hc.y0; simp; omega
      have e2 : decide (v.Series[i].Year <= 2099) = true := by have := hc.y1; simp; omega
      have e3 : decide (v.Series[i].Factor.Num > 0) = true := by have := hc.n; simp; omega
      unfold a5v a9q b0t
      simp only [b8l hi, if_true, a3i hi, Option.bind_some, hs, e1, e2, e3, Bool.not_true, Bool.false_eq_true, if_false, a7h (show i <= 1000000 by omega)]
    . intro r
      unfold a5v
      simp only [a85, Bool.false_eq_true, if_false]
      exact l3
  have l1 : d9 FU (a41 v) (v, 0) = some true := by
    refine p6 (fun i => (v, (i : Int))) v.Credits.length ?_ ?_ (by have := h.cl; omega)
    . intro i hi r
      have hc := h.cr _ (List.getElem_mem hi)
      obtain ⟨w, h1, h2⟩ := d21 hc.wS
      have := h.cl
      have e1 : decide (v.Credits[i].Limit < 0) = false := by have := hc.l0; simp; omega
      have e2 : decide (v.Credits[i].Limit > 73049) = false := by have := hc.l1; simp; omega
      unfold a41
      simp only [b8l hi, if_true, a3i hi, Option.bind_some, e25, h1, h2, e1, e2, Bool.not_true, Bool.false_eq_true, if_false, a7h (show i <= 1000000 by omega)]
    . intro r
      unfold a41
      simp only [a85, Bool.false_eq_true, if_false]
      exact l2
  unfold a5e a3h
  have d1 : decide (v.From >= 0) = true := by have := h.f0; simp; omega
  have d2 : decide (v.From <= 73048) = true := by have := h.f1; simp; omega
  have d5 : decide (v.Rounding.Unit < 1) = false := by have := h.u0; simp; omega
  have d6 : decide (v.Rounding.Unit > 100000) = false := by have := h.u1; simp; omega
  have n1 : decide ((v.Credits.length : Int) > 6) = false := by have := h.cl; simp; omega
  have n2 : decide ((v.Series.length : Int) > 20) = false := by have := h.sl; simp; omega
  have n3 : decide ((v.Lets.length : Int) > 10) = false := by have := h.ll; simp; omega
  have n4 : decide ((v.Grants.length : Int) > 5) = false := by have := h.gl; simp; omega
  have n5 : decide ((v.Reduces.length : Int) > 5) = false := by have := h.rl; simp; omega
  obtain ⟨w, h1, h2⟩ := d21 h.mS
  simp only [d1, d2, d5, d6, e43, h1, h2, if_true, Option.bind_some, Bool.not_true, Bool.false_eq_true, if_false]
  unfold joinC a5y
  simp only [n1, n2, n3, n4, n5, if_true, Option.bind_some, Bool.not_true, Bool.false_eq_true, if_false]
  exact l1
theorem c3r {l : List Credit} {c : Credit} (hl : l.length <= 1000) (h : ∀ x ∈ l, x.Kind ≠ c.Kind) : n6 l c = some false := by
  unfold n6 u4
  have : d9 FU (n9 l c) ((0 : Nat) : Int) = some (-1) := by
    refine p6 (fun i => (i : Int)) l.length ?_ ?_ (by have := a2s; omega)
    . intro i hi r
      have hb := h _ (List.getElem_mem hi)
      have e1 : (l[i].Kind == c.Kind) = false := by simpa using hb
      unfold n9 b0p
      simp only [b8l hi, if_true, a3i hi, Option.bind_some, e1, Bool.false_eq_true, if_false, a7h (show i <= 1000000 by omega)]
    . intro r
      unfold n9
      simp only [a85, Bool.false_eq_true, if_false]
  rw [show (0 : Int) = ((0 : Nat) : Int) from rfl, this]
  rfl
theorem c46 {l : List Grant} {c : Grant} (hl : l.length <= 1000) (h : ∀ x ∈ l, x.Benefit ≠ c.Benefit) : o8 l c = some false := by
  unfold o8 w7
  have : d9 FU (o7 l c) ((0 : Nat) : Int) = some (-1) := by
    refine p6 (fun i => (i : Int)) l.length ?_ ?_ (by have := a2s; omega)
    . intro i hi r
      have hb := h _ (List.getElem_mem hi)
      have e1 : (l[i].Benefit == c.Benefit) = false := by simpa using hb
      unfold o7 b0v
      simp only [b8l hi, if_true, a3i hi, Option.bind_some, e1, Bool.false_eq_true, if_false, a7h (show i <= 1000000 by omega)]
    . intro r
      unfold o7
      simp only [a85, Bool.false_eq_true, if_false]
  rw [show (0 : Int) = ((0 : Nat) : Int) from rfl, this]
  rfl
theorem c2a {l : List Reduce} {c : Reduce} (hl : l.length <= 1000) (h : ∀ x ∈ l, x.Benefit ≠ c.Benefit) : n8 l c = some false := by
  unfold n8 u6
  have : d9 FU (m8 l c) ((0 : Nat) : Int) = some (-1) := by
    refine p6 (fun i => (i : Int)) l.length ?_ ?_ (by have := a2s; omega)
    . intro i hi r
      have hb := h _ (List.getElem_mem hi)
      have e1 : (l[i].Benefit == c.Benefit) = false := by simpa using hb
      unfold m8 b0u
      simp only [b8l hi, if_true, a3i hi, Option.bind_some, e1, Bool.false_eq_true, if_false, a7h (show i <= 1000000 by omega)]
    . intro r
      unfold m8
      simp only [a85, Bool.false_eq_true, if_false]
  rw [show (0 : Int) = ((0 : Nat) : Int) from rfl, this]
  rfl
theorem d1k {α : Type} {l : List α} {i : Nat} (h : i < l.length) : a3w l 0 (i : Int) = some (l.take i) := by
  rw [b3u (Int.le_refl _) (by omega) (by omega)]
  simp
theorem c27 {α : Type} {R : α -> α -> Prop} {l : List α} (h : l.Pairwise R) {i : Nat} (hi : i < l.length) : ∀ x ∈ l.take i, R x l[i] := by
  intro x hx
  obtain ⟨j, hj, rfl⟩ := List.getElem_of_mem hx
  have hj2 : j < i := by simp at hj; omega
  rw [List.getElem_take]
  exact List.pairwise_iff_getElem.1 h j i (by omega) hi hj2
theorem e4n (h : VOK env v) : a9u v = some 0 := by
  have hf := a2s
  have l4 : ∀ v12 : Version × List Binding × Int, v12.1 = v -> d9 FU (a6q v12) (v, env, 0) = some 0 := by
    intro v12 hv
    refine p6 (fun i => (v, env, (i : Int))) v.Reduces.length ?_ ?_ (by have := h.rl; omega)
    . intro i hi r
      have hc := h.rd _ (List.getElem_mem hi)
      have := h.rl
      unfold a6q
      simp only [hv, b8l hi, if_true, a3i hi, Option.bind_some, d1k hi, c2a (l := v.Reduces.take i) (by simp; omega) (c27 h.rdp hi), hc.2.of h.en, show ((0 : Int) != 0) = false from rfl, Bool.false_eq_true, if_false, a7h (show i <= 1000000 by omega)]
    . intro r
      unfold a6q
      simp only [hv, a85, Bool.false_eq_true, if_false]
  have l3 : ∀ v12 : Version × List Binding × Int, v12.1 = v -> d9 FU (a73 v12) (v, env, 0) = some 0 := by
    intro v12 hv
    refine p6 (fun i => (v, env, (i : Int))) v.Grants.length ?_ ?_ (by have := h.gl; omega)
    . intro i hi r
      have hc := h.gr _ (List.getElem_mem hi)
      have := h.gl
      unfold a73
      simp only [hv, b8l hi, if_true, a3i hi, Option.bind_some, d1k hi, c46 (l := v.Grants.take i) (by simp; omega) (c27 h.grp hi), hc.2.1.of h.en, hc.2.2.of h.en, show ((0 : Int) != 0) = false from rfl, Bool.false_eq_true, if_false, a7h (show i <= 1000000 by omega)]
    . intro r
      unfold a73
      simp only [hv, a85, Bool.false_eq_true, if_false]
      exact l4 _ rfl
  have l2 : ∀ v12 : Version × List Binding × Int, v12.1 = v -> d9 FU (a6p v12) (v, env, 0) = some 0 := by
    intro v12 hv
    refine p6 (fun i => (v, env, (i : Int))) v.Series.length ?_ ?_ (by have := h.sl; omega)
    . intro i hi r
      have := h.sl
      unfold a6p
      simp only [hv, b8l hi, if_true, a3i hi, Option.bind_some]
      have e : ((if decide ((i : Int) > 0) then (l8 v.Series (i64 ((i : Int) - 1))).bind fun v10 => some (decide (v.Series[i].Year <= v10.Year)) else some false) : Option Bool) = some false := by
        cases i with
        | zero => rfl
        | succ i =>
          have hlt := List.pairwise_iff_getElem.1 h.ixp i (i + 1) (by omega) hi (by omega)
          have e1 : decide (((i + 1 : Nat) : Int) > 0) = true := by simp
          have e2 : i64 (((i + 1 : Nat) : Int) - 1) = (i : Int) := by rw [i8 (by omega) (by omega)]; omega
          have e3 : decide (v.Series[i + 1].Year <= v.Series[i].Year) = false := by simp; omega
          simp only [e1, if_true, e2, a3i (show i < v.Series.length by omega), Option.bind_some, e3]
      rw [e, Option.bind_some]
      simp only [Bool.false_eq_true, if_false, a7h (show i <= 1000000 by omega)]
    . intro r
      unfold a6p
      simp only [hv, a85, Bool.false_eq_true, if_false]
      exact l3 _ rfl
  have l1 : d9 FU (a6x v) (v, env, 0) = some 0 := by
    refine p6 (fun i => (v, env, (i : Int))) v.Credits.length ?_ ?_ (by have := h.cl; omega)
    . intro i hi r
      have := h.cl
      unfold a6x
      simp only [b8l hi, if_true, a3i hi, Option.bind_some, d1k hi, c3r (l := v.Credits.take i) (by simp; omega) (c27 h.crp hi), Bool.false_eq_true, if_false, a7h (show i <= 1000000 by omega)]
    . intro r
      unfold a6x
      simp only [a85, Bool.false_eq_true, if_false]
      exact l2 _ rfl
  unfold a9u
  simp only [h.ls, Option.bind_some, show ((0 : Int) != 0) = false from rfl, Bool.false_eq_true, if_false]
  exact l1
end
structure SOK (x : Statute) : Prop where
  n5 : s5 x.Name = some true
  nS : a4b x.Name = some true
  c0 : 1 <= x.Currency
  c1 : x.Currency <= 999
  l0 : 1 <= x.Versions.length
  l1 : x.Versions.length <= 6
  vs : ∀ v ∈ x.Versions, ∃ env, VOK env v
  vp : x.Versions.Pairwise fun a b => a.From < b.From
theorem e96 {x : Statute} (h : SOK x) : a3o x = some true := by
  have hf := a2s
  have l1 : d9 FU a4p (x, 0) = some true := by
    refine p6 (fun i => (x, (i : Int))) x.Versions.length ?_ ?_ (by have := h.l1; omega)
    . intro i hi r
      obtain ⟨env, hv⟩ := h.vs _ (List.getElem_mem hi)
      have := h.l1
      unfold a4p
      simp only [b8l hi, if_true, a3i hi, Option.bind_some, e2e hv, Bool.not_true, Bool.false_eq_true, if_false, a7h (show i <= 1000000 by omega)]
    . intro r
      unfold a4p
      simp only [a85, Bool.false_eq_true, if_false]
  unfold a3o
  have d1 : decide (x.Currency < 1) = false := by have := h.c0; simp; omega
  have d2 : decide (x.Currency > 999) = false := by have := h.c1; simp; omega
  have d3 : decide ((x.Versions.length : Int) < 1) = false := by have := h.l0; simp; omega
  have d4 : decide ((x.Versions.length : Int) > 6) = false := by have := h.l1; simp; omega
  simp only [h.n5, d1, d2, d3, d4, Option.bind_some, Bool.not_true, Bool.false_eq_true, if_false]
  exact l1
theorem e1p {x : Statute} (h : SOK x) : b2u x = some true := by
  have hf := a2s
  have l1 : d9 FU (a8l x) 0 = some true := by
    refine p6 (fun i => (i : Int)) x.Versions.length ?_ ?_ (by have := h.l1; omega)
    . intro i hi r
      obtain ⟨env, hv⟩ := h.vs _ (List.getElem_mem hi)
      have := h.l1
      unfold a8l
      simp only [b8l hi, if_true, a3i hi, Option.bind_some, e3g hv, Bool.not_true, Bool.false_eq_true, if_false, a7h (show i <= 1000000 by omega)]
    . intro r
      unfold a8l
      simp only [a85, Bool.false_eq_true, if_false]
  unfold b2u
  have d1 : decide (x.Currency < 1) = false := by have := h.c0; simp; omega
  have d2 : decide (x.Currency > 999) = false := by have := h.c1; simp; omega
  have d3 : decide ((x.Versions.length : Int) < 1) = false := by have := h.l0; simp; omega
  have d4 : decide ((x.Versions.length : Int) > 6) = false := by have := h.l1; simp; omega
  simp only [h.nS, d1, d2, d3, d4, Option.bind_some, Bool.not_true, Bool.false_eq_true, if_false]
  exact l1
theorem c75 {x : Statute} (h : SOK x) : a4n x = some (0, 0) := by
  have hf := a2s
  unfold a4n
  simp only [e1p h, Option.bind_some, Bool.not_true, Bool.false_eq_true, if_false]
  refine p6 (fun i => (x, (i : Int))) x.Versions.length ?_ ?_ (by have := h.l1; omega)
  . intro i hi r
    obtain ⟨env, hv⟩ := h.vs _ (List.getElem_mem hi)
    have := h.l1
    unfold a9o
    simp only [b8l hi, if_true, a3i hi, Option.bind_some]
    have e : ((if decide ((i : Int) > 0) then (l8 x.Versions (i64 ((i : Int) - 1))).bind fun v5 => some (decide (x.Versions[i].From <= v5.From)) else some false) : Option Bool) = some false := by
      cases i with
      | zero => rfl
      | succ i =>
        have hlt := List.pairwise_iff_getElem.1 h.vp i (i + 1) (by omega) hi (by omega)
        have e1 : decide (((i + 1 : Nat) : Int) > 0) = true := by simp
        have e2 : i64 (((i + 1 : Nat) : Int) - 1) = (i : Int) := by rw [i8 (by omega) (by omega)]; omega
        have e3 : decide (x.Versions[i + 1].From <= x.Versions[i].From) = false := by simp; omega
        simp only [e1, if_true, e2, a3i (show i < x.Versions.length by omega), Option.bind_some, e3]
    rw [e, Option.bind_some]
    simp only [Bool.false_eq_true, if_false, e4n hv, Option.bind_some, show ((0 : Int) != 0) = false from rfl, a7h (show i <= 1000000 by omega)]
  . intro r
    unfold a9o
    simp only [a85, Bool.false_eq_true, if_false]
end Go.PL
namespace Go.PL
open Go Go.SX
structure NumX (w : List UInt8) (v : Fraction) (d : Int) : Prop where
  st : ∃ c r, w = c :: r /\ c6e (iv c) = true /\ d4s (iv c) = false
  rc : ∀ x ∈ w, c7y true x = true
  pt : ∃ x y, a0a ⟨w.toArray⟩ = some (x, y, d, true)
  de : s6 ⟨w.toArray⟩ = some (v, d, true)
  f5 : ∃ s, p8 v d = some (s, true)
  fS : ∃ s, a04 v d = some (s, true)
theorem f01 {c : UInt8} (h : c6e (iv c) = true) : c7y true c = true := by unfold c7y; rw [h]; simp
theorem NumX.whole {n : Nat} (hn : n <= 100000) {s : List UInt8} {d : Int} (hs : f2d s d) : NumX (a7f 20 n ++ s) ⟨(n : Int), 1⟩ d := by
  have hd := d71 20 n (Nat.lt_of_le_of_lt hn (by decide))
  have hdl := b95 20 n 5 (Nat.lt_of_le_of_lt hn (by decide))
  have hd2 : 2 <= d /\ d <= 4 := by rcases hs with ⟨_, rfl⟩ | ⟨_, rfl⟩ | ⟨_, rfl⟩ <;> decide
  refine ⟨?_, ?_, ⟨_, _, c29 hd (by omega) hs⟩, e18 hd (by omega) hs, d49 (by omega) (by omega) hd2.1 hd2.2, d5r (by omega) hd2.1 hd2.2⟩
  . cases hb : a7f 20 n with
    | nil => exact absurd hb hd.ne
    | cons c r =>
      have hc := hd.dig c (by rw [hb]; simp)
      have hr := b5t hc
      exact ⟨c, r ++ s, rfl, hc, by unfold d4s; simp; omega⟩
  . intro x hx
    rcases List.mem_append.1 hx with hx | hx
    . exact f01 (hd.dig x hx)
    . rcases hs with ⟨rfl, _⟩ | ⟨rfl, _⟩ | ⟨rfl, _⟩
      . cases hx
      . rw [List.mem_singleton] at hx; subst hx; rfl
      . rw [List.mem_singleton] at hx; subst hx; rfl
def f7q (o : Option (ByteArray × Bool)) : Bool := match o with | some (_, b) => b | none => false
theorem e1c {o : Option (ByteArray × Bool)} (h : f7q o = true) : ∃ s, o = some (s, true) := by
  cases o with
  | none => cases h
  | some x => obtain ⟨s, b⟩ := x; cases b with | false => cases h | true => exact ⟨s, rfl⟩
def okP (w : List UInt8) (d : Int) : Bool := match a0a ⟨w.toArray⟩ with | some (_, _, d2, b) => b && d2 == d | none => false
theorem f4u {w : List UInt8} {d : Int} (h : okP w d = true) : ∃ x y, a0a ⟨w.toArray⟩ = some (x, y, d, true) := by
  unfold okP at h
  split at h
  . rename_i x y d2 b he
    simp at h
    obtain ⟨rfl, rfl⟩ := h
    exact ⟨x, y, he⟩
  . cases h
def okV (w : List UInt8) (d : Int) (v : Fraction) : Bool := match s6 ⟨w.toArray⟩ with | some (u, d2, b) => b && (d2 == d && (u.Num == v.Num && u.Den == v.Den)) | none => false
theorem f4a {w : List UInt8} {d : Int} {v : Fraction} (h : okV w d v = true) : s6 ⟨w.toArray⟩ = some (v, d, true) := by
  unfold okV at h
  split at h
  . rename_i u d2 b he
    simp at h
    obtain ⟨rfl, rfl, h1, h2⟩ := h
    rw [he]
    cases u; cases v
    simp at h1 h2
    subst h1; subst h2
    rfl
  . cases h
def e95 (w : List UInt8) (v : Fraction) (d : Int) : Bool := (match w with | c :: _ => c6e (iv c) && !d4s (iv c) | [] => false) && (w.all (c7y true) && (okP w d && (okV w d v && (f7q (p8 v d) && f7q (a04 v d)))))
theorem NumX.chk {w : List UInt8} {v : Fraction} {d : Int} (h : e95 w v d = true) : NumX w v d := by
  unfold e95 at h
  simp only [Bool.and_eq_true] at h
  obtain ⟨h1, h2, h3, h4, h5, h6⟩ := h
  refine ⟨?_, fun x hx => List.all_eq_true.1 h2 x hx, f4u h3, f4a h4, e1c h5, e1c h6⟩
  cases w with
  | nil => cases h1
  | cons c r => simp at h1; exact ⟨c, r, rfl, h1.1, h1.2⟩
def okA : List Lx -> List UInt8 -> Prop
  | [], _ => True
  | l :: ls, rest => LxOK l.t l.w (blk l.sp ++ (y7 ls ++ rest)) /\ okA ls rest
theorem a3j : ∀ (a b : List Lx), y7 (a ++ b) = y7 a ++ y7 b
  | [], b => rfl
  | l :: a, b => by
    show l.w ++ (blk l.sp ++ y7 (a ++ b)) = l.w ++ (blk l.sp ++ y7 a) ++ y7 b
    rw [a3j a b]; simp
theorem a80 : ∀ (a b : List Lx) (rest : List UInt8), okA a (y7 b ++ rest) -> okA b rest -> okA (a ++ b) rest
  | [], b, rest, _, h => h
  | l :: a, b, rest, h1, h2 => ⟨by
      have := h1.1
      show LxOK l.t l.w (blk l.sp ++ (y7 (a ++ b) ++ rest))
      rw [a3j, List.append_assoc]
      exact this, a80 a b rest h1.2 h2⟩
theorem e5p : ∀ (a : List Lx), okA a [] -> okL a
  | [], _ => trivial
  | l :: a, h => ⟨by have := h.1; rw [List.append_nil] at this; exact this, e5p a h.2⟩
def bl (s : ByteArray) : List UInt8 := s.data.toList
def d0v (s : ByteArray) : Bool := match bl s with | c :: w => d4s (iv c) && ((c :: w).all (c7y false) && decide ((c :: w).length <= 12)) | [] => false
theorem LxOK.word {s : ByteArray} {rest : List UInt8} (h : d0v s = true) (hr : b84 (c7y false) rest) : LxOK (.w s) (bl s) rest := by
  obtain ⟨⟨l⟩⟩ := s
  have hb : bl ⟨⟨l⟩⟩ = l := rfl
  unfold d0v at h
  rw [hb] at h ⊢
  cases l with
  | nil => cases h
  | cons c w =>
    simp only [Bool.and_eq_true, decide_eq_true_eq] at h
    exact LxOK.w (c := c) (w := w) h.1 (fun x hx => List.all_eq_true.1 h.2.1 x hx) h.2.2 hr
def c7l (w : List UInt8) (day : Int) : Bool := match w with | c :: r => c == 64 && (decide (r.length = 10) && (match a1x ⟨r.toArray⟩ with | some (x, b) => b && x == day | none => false)) | [] => false
theorem LxOK.date {w rest : List UInt8} {day : Int} (h : c7l w day = true) : LxOK (.d day) w rest := by
  cases w with
  | nil => cases h
  | cons c r =>
    unfold c7l at h
    simp only [Bool.and_eq_true, decide_eq_true_eq, beq_iff_eq] at h
    obtain ⟨rfl, h2, h3⟩ := h
    split at h3
    . rename_i x b he
      simp at h3
      obtain ⟨rfl, rfl⟩ := h3
      exact LxOK.d h2 he
    . cases h3
def f3i (s : ByteArray) : Bool := match bl s with
  | [c] => d8k c
  | [c, c2] => (c == 60 && c2 == 61) || ((c == 62 && c2 == 61) || (c == 60 && c2 == 62))
  | _ => false
def f7l (s : ByteArray) : Bool := match bl s with | [c] => iv c != 60 && iv c != 62 | _ => false
def nx (p : UInt8 -> Bool) (sp : Bool) (ls : List Lx) : Bool := sp || (match ls with | m :: _ => (match m.t with | .s s => (match bl s with | c :: _ => !p c | [] => false) | _ => false) | [] => false)
theorem e9u {p : UInt8 -> Bool} {sp : Bool} {ls : List Lx} {rest : List UInt8} (hp : p 32 = false) (h : nx p sp ls = true) (hw : ∀ m ∈ ls, ∀ s, m.t = .s s -> m.w = bl s) : b84 p (blk sp ++ (y7 ls ++ rest)) := by
  intro c r he
  cases sp with
  | true =>
    have he : 32 :: (y7 ls ++ rest) = c :: r := he
    injection he with h1 h2
    subst h1; exact hp
  | false =>
    have he : y7 ls ++ rest = c :: r := he
    cases ls with
    | nil => cases h
    | cons m ls =>
      have h : (match m.t with | .s s => (match bl s with | c :: _ => !p c | [] => false) | _ => false) = true := h
      have hm := hw m (by simp)
      have he : m.w ++ (blk m.sp ++ y7 ls) ++ rest = c :: r := he
      cases ht : m.t with
      | s s =>
        rw [ht] at h
        have h : (match bl s with | c :: _ => !p c | [] => false) = true := h
        rw [hm s ht] at he
        cases hb : bl s with
        | nil => rw [hb] at h; cases h
        | cons c2 r2 =>
          rw [hb] at h he
          have : c2 = c := by injection he
          subst this
          simpa using h
      | w s => rw [ht] at h; cases h
      | n v d => rw [ht] at h; cases h
      | d day => rw [ht] at h; cases h
def c0l : List Lx -> Bool
  | [] => true
  | l :: ls => (match l.t with
      | .w s => l.w == bl s && (d0v s && nx (c7y false) l.sp ls)
      | .s s => l.w == bl s && (f3i s && (f7l s || nx (fun c => iv c == 61 || iv c == 62) l.sp ls))
      | .n _ _ => nx (c7y true) l.sp ls
      | .d day => c7l l.w day) && c0l ls
def c89 : List Lx -> Prop
  | [] => True
  | l :: ls => (match l.t with | .n v d => NumX l.w v d | _ => True) /\ c89 ls
theorem c4j : ∀ (ls : List Lx), c0l ls = true -> ∀ m ∈ ls, ∀ s, m.t = .s s -> m.w = bl s
  | [], _, m, hm, _, _ => by cases hm
  | l :: ls, h, m, hm, s, hs => by
    unfold c0l at h
    rw [Bool.and_eq_true] at h
    rcases List.mem_cons.1 hm with rfl | hm
    . rw [hs] at h
      simp only [Bool.and_eq_true, beq_iff_eq] at h
      exact h.1.1
    . exact c4j ls h.2 m hm s hs
theorem c0h : ∀ (ls : List Lx), c0l ls = true -> c89 ls -> ∀ rest, okA ls rest
  | [], _, _, _ => trivial
  | l :: ls, h, hn, rest => by
    have hsg := c4j ls (by unfold c0l at h; rw [Bool.and_eq_true] at h; exact h.2)
    obtain ⟨t, w, sp⟩ := l
    unfold c0l at h
    rw [Bool.and_eq_true] at h
    refine ⟨?_, c0h ls h.2 hn.2 rest⟩
    have h1 := h.1
    show LxOK t w (blk sp ++ (y7 ls ++ rest))
    cases t with
    | w s =>
      simp only [Bool.and_eq_true, beq_iff_eq] at h1
      obtain ⟨rfl, h2, h3⟩ := h1
      exact LxOK.word h2 (e9u rfl h3 hsg)
    | s s =>
      simp only [Bool.and_eq_true, beq_iff_eq] at h1
      obtain ⟨rfl, h2, h3⟩ := h1
      have h4 : f7l s = true \/ b84 (fun c => iv c == 61 || iv c == 62) (blk sp ++ (y7 ls ++ rest)) := by
        rcases Bool.or_eq_true _ _ |>.mp h3 with h3 | h3
        . exact .inl h3
        . exact .inr (e9u (rest := rest) (p := fun c => iv c == 61 || iv c == 62) rfl h3 hsg)
      obtain ⟨⟨l⟩⟩ := s
      have hb : bl ⟨⟨l⟩⟩ = l := rfl
      unfold f3i at h2
      unfold f7l at h4
      rw [hb] at h2 h4 ⊢
      match l, h2, h4 with
      | [c], h2, h4 =>
        refine LxOK.s1 h2 ?_
        rcases h4 with h4 | h4
        . exact .inl (by simpa using h4)
        . exact .inr h4
      | [c, c2], h2, _ =>
        refine LxOK.s2 ?_
        simp only [Bool.or_eq_true, Bool.and_eq_true, beq_iff_eq] at h2
        rcases h2 with ⟨rfl, rfl⟩ | ⟨rfl, rfl⟩ | ⟨rfl, rfl⟩
        . exact .inl rfl
        . exact .inr (.inl rfl)
        . exact .inr (.inr rfl)
    | n v d =>
      have hx : NumX w v d := hn.1
      obtain ⟨c, r, rfl, hc1, hc2⟩ := hx.st
      obtain ⟨x, y, hp⟩ := hx.pt
      exact LxOK.n hc1 hc2 hx.rc (e9u rfl h1 hsg) hp hx.de
    | d day => exact LxOK.date h1
end Go.PL
namespace Go.PL
open Go Go.SX
def W (s : ByteArray) : Lx := ⟨.w s, bl s, true⟩
def Wn (s : ByteArray) : Lx := ⟨.w s, bl s, false⟩
def Sg (s : ByteArray) : Lx := ⟨.s s, bl s, true⟩
def Sh (s : ByteArray) : Lx := ⟨.s s, bl s, false⟩
def N (w : List UInt8) (v : Fraction) (d : Int) (sp : Bool) : Lx := ⟨.n v d, w, sp⟩
def num (n : Nat) (s : List UInt8) (d : Int) (sp : Bool) : Lx := N (a7f 20 n ++ s) ⟨(n : Int), 1⟩ d sp
def a5r : ByteArray := ⟨#[115, 112, 101, 110, 116]⟩
def a9c : ByteArray := ⟨#[112, 97, 114, 116]⟩
def f3n : List UInt8 := [49, 57, 54, 48]
def f3e : List UInt8 := [49, 57, 56, 48]
def f3g : List UInt8 := [49, 57, 57, 53]
def n1 : List UInt8 := [49]
def n3 : List UInt8 := [51]
def n12 : List UInt8 := [49, 50]
def n60 : List UInt8 := [54, 48]
def n30d : List UInt8 := [51, 48, 100]
def p50 : List UInt8 := [48, 46, 53, 48]
def p60 : List UInt8 := [48, 46, 54, 48]
def p70 : List UInt8 := [48, 46, 55, 48]
def p80 : List UInt8 := [48, 46, 56, 48]
theorem f6y : NumX f3n ⟨1960, 1⟩ 2 := .chk (by kernel_rfl)
theorem f7u : NumX f3e ⟨1980, 1⟩ 2 := .chk (by kernel_rfl)
theorem f5z : NumX f3g ⟨1995, 1⟩ 2 := .chk (by kernel_rfl)
theorem x1 : NumX n1 ⟨1, 1⟩ 2 := .chk (by kernel_rfl)
theorem x3 : NumX n3 ⟨3, 1⟩ 2 := .chk (by kernel_rfl)
theorem x12 : NumX n12 ⟨12, 1⟩ 2 := .chk (by kernel_rfl)
theorem x60 : NumX n60 ⟨60, 1⟩ 2 := .chk (by kernel_rfl)
theorem x30d : NumX n30d ⟨30, 1⟩ 3 := .chk (by kernel_rfl)
theorem xp50 : NumX p50 ⟨1, 2⟩ 2 := .chk (by kernel_rfl)
theorem xp60 : NumX p60 ⟨3, 5⟩ 2 := .chk (by kernel_rfl)
theorem xp70 : NumX p70 ⟨7, 10⟩ 2 := .chk (by kernel_rfl)
theorem f8n : NumX p80 ⟨4, 5⟩ 2 := .chk (by kernel_rfl)
def lC6 : List Lx := [W a1w, Wn a5f, Sg a07]
def lC7 (n : Nat) : List Lx := [W a1w, W a7l, W a7j, num n [] 2 false, Sg a07]
def e7x (n : Nat) : List Lx := [W a1w, W b6g, W a7j, num n [] 2 false, Sg a07]
def lC5 : List Lx := [W a1w, Wn a8e, Sg a07]
def lI0 : List Lx := [W a4g, N f3n ⟨1960, 1⟩ 2 true, N n1 ⟨1, 1⟩ 2 false, Sg a07]
def lI1 (w : List UInt8) (v : Fraction) : List Lx := [W a4g, N f3e ⟨1980, 1⟩ 2 true, N w v 2 false, Sg a07]
def lI2 (w : List UInt8) (v : Fraction) : List Lx := [W a4g, N f3g ⟨1995, 1⟩ 2 true, N w v 2 false, Sg a07]
def lL1 (n : Nat) : List Lx := [W a9m, W a5r, Sg b5y, W a3p, Sg b7t, num n [100] 3 false, Sg a07]
def lL2 (w : List UInt8) (v : Fraction) : List Lx := [W a9m, W a9c, Sg b5y, Wn b4t, Sh a7w, W a5r, Sg a7c, N w v 2 false, Sg c09, N p80 ⟨4, 5⟩ 2 false, Sh a9p, Sg a07]
def lG1 (a i m : Nat) : List Lx := [W a35, W b7u, W a9b, W b7n, Sg a4v, num a [] 2 true, W b69, W a3p, Sg a4v, num i [100] 3 true, W b0s, Wn b3m, Sh a7w, W a8t, Sg a7c, Wn a9c, Sg c09, num m [109] 4 false, Sh a9p, Sg a07]
def lG2 (i : Nat) (w : List UInt8) (v : Fraction) : List Lx := [W a35, W a4l, W a9b, W a3p, Sg a4v, num i [100] 3 true, W b0s, W a8t, Sg a7c, N w v 2 false, Sg a07]
def lG3 : List Lx := [W a35, W b0i, W a9b, W b4a, Sg c5t, W b27, Sg a4v, N n30d ⟨30, 1⟩ 3 true, W b0s, W a8t, Sg a7c, W a9c, Sg a7c, N p60 ⟨3, 5⟩ 2 false, Sg a07]
def lG4 (i m : Nat) : List Lx := [W a35, W b3v, W a9b, W a3p, Sg a4v, num i [100] 3 true, W b0s, num m [109] 4 true, Sg a7c, Wn b0d, Sg a07]
def lG5 (i : Nat) : List Lx := [W a35, W b0c, W a9b, W a3p, Sg a4v, num i [100] 3 true, W b0s, Wn b01, Sh a7w, N n3 ⟨3, 1⟩ 2 false, Sg a9p, Sg b7t, N n12 ⟨12, 1⟩ 2 true, Sg a7c, N p70 ⟨7, 10⟩ 2 false, Sg a07]
def lR1 (w : List UInt8) (v : Fraction) : List Lx := [W a3n, W b7u, W b9x, N w v 2 false, Sg a07]
def lR2 : List Lx := [W a3n, W a4l, W b9x, W a9b, W b7n, Sg c7g, N n60 ⟨60, 1⟩ 2 true, W b6m, N p50 ⟨1, 2⟩ 2 true, W b2w, N n1 ⟨1, 1⟩ 2 false, Sg a07]
def aL1 (n : Nat) : AE := .bin 10 (.nm a3p) (.lit ⟨(n : Int), 1⟩ 3)
def aL2 (v : Fraction) : AE := .bin 19 (.bin 9 (.nm a5r) (.lit v 2)) (.lit ⟨4, 5⟩ 2)
def f1c (a i : Nat) : AE := .bin 17 (.bin 16 (.nm b7n) (.lit ⟨(a : Int), 1⟩ 2)) (.bin 16 (.nm a3p) (.lit ⟨(i : Int), 1⟩ 3))
def f0u (m : Nat) : AE := .bin 20 (.bin 9 (.nm a8t) (.nm a9c)) (.lit ⟨(m : Int), 1⟩ 4)
def d59 (i : Nat) : AE := .bin 16 (.nm a3p) (.lit ⟨(i : Int), 1⟩ 3)
def f1u (v : Fraction) : AE := .bin 9 (.nm a8t) (.lit v 2)
def e8v : AE := .bin 16 (.bin 7 (.nm b4a) (.nm b27)) (.lit ⟨30, 1⟩ 3)
def f0e : AE := .bin 9 (.bin 9 (.nm a8t) (.nm a9c)) (.lit ⟨3, 5⟩ 2)
def f2t (m : Nat) : AE := .bin 9 (.lit ⟨(m : Int), 1⟩ 4) (.nm b0d)
def f19 : AE := .bin 9 (.bin 10 (.best 3) (.lit ⟨12, 1⟩ 2)) (.lit ⟨7, 10⟩ 2)
def aR1 (v : Fraction) : AE := .lit v 2
def aR2 : AE := .ite (.bin 11 (.nm b7n) (.lit ⟨60, 1⟩ 2)) (.lit ⟨1, 2⟩ 2) (.lit ⟨1, 1⟩ 2)
def tk (l : List Lx) (ts : List Tk) : List Tk := l.map (·.t) ++ ts
theorem rC6 (ts : List Tk) : ClR (tk lC6 ts) (.credit 6 0) ts := .credit0 (x := a5f) (by kernel_rfl) (by decide)
theorem rC5 (ts : List Tk) : ClR (tk lC5 ts) (.credit 5 0) ts := .credit0 (x := a8e) (by kernel_rfl) (by decide)
theorem rC7 {n : Nat} (h0 : 1 <= n) (h1 : n <= 73049) (ts : List Tk) : ClR (tk (lC7 n) ts) (.credit 7 n) ts := .credit (x := a7l) (by kernel_rfl) (by decide) (by omega) (by omega)
theorem rC10 {n : Nat} (h0 : 1 <= n) (h1 : n <= 73049) (ts : List Tk) : ClR (tk (e7x n) ts) (.credit 10 n) ts := .credit (x := b6g) (by kernel_rfl) (by decide) (by omega) (by omega)
theorem rI0 (ts : List Tk) : ClR (tk lI0 ts) (.index 1960 ⟨1, 1⟩) ts := .index (by decide) (by decide) (by decide) (by decide)
theorem rI1 {w : List UInt8} {v : Fraction} (h : 0 < v.Num) (hd : v.Den ≠ 0) (ts : List Tk) : ClR (tk (lI1 w v) ts) (.index 1980 v) ts := .index (by decide) (by decide) h hd
theorem rI2 {w : List UInt8} {v : Fraction} (h : 0 < v.Num) (hd : v.Den ≠ 0) (ts : List Tk) : ClR (tk (lI2 w v) ts) (.index 1995 v) ts := .index (by decide) (by decide) h hd
theorem rL1 (n : Nat) (ts : List Tk) : ClR (tk (lL1 n) ts) (.lett a5r (aL1 n)) ts := .lett (x := a5r) (by kernel_rfl) (by kernel_rfl)
theorem rL2 (w : List UInt8) (v : Fraction) (ts : List Tk) : ClR (tk (lL2 w v) ts) (.lett a9c (aL2 v)) ts := .lett (x := a9c) (by kernel_rfl) (by kernel_rfl)
theorem rG1 (a i m : Nat) (ts : List Tk) : ClR (tk (lG1 a i m) ts) (.grant 1 (f1c a i) (f0u m)) ts := .grant (x := b7u) (vs := ([Wn b3m, Sh a7w, W a8t, Sg a7c, Wn a9c, Sg c09, num m [109] 4 false, Sh a9p, Sg a07] : List Lx).map (·.t) ++ ts) (by kernel_rfl) (by decide) (by kernel_rfl) (by kernel_rfl)
theorem rG2 (i : Nat) (w : List UInt8) (v : Fraction) (ts : List Tk) : ClR (tk (lG2 i w v) ts) (.grant 2 (d59 i) (f1u v)) ts := .grant (x := a4l) (vs := ([W a8t, Sg a7c, N w v 2 false, Sg a07] : List Lx).map (·.t) ++ ts) (by kernel_rfl) (by decide) (by kernel_rfl) (by kernel_rfl)
theorem rG3 (ts : List Tk) : ClR (tk lG3 ts) (.grant 3 e8v f0e) ts := .grant (x := b0i) (vs := ([W a8t, Sg a7c, W a9c, Sg a7c, N p60 ⟨3, 5⟩ 2 false, Sg a07] : List Lx).map (·.t) ++ ts) (by kernel_rfl) (by decide) (by kernel_rfl) (by kernel_rfl)
theorem rG4 (i m : Nat) (ts : List Tk) : ClR (tk (lG4 i m) ts) (.grant 4 (d59 i) (f2t m)) ts := .grant (x := b3v) (vs := ([num m [109] 4 true, Sg a7c, Wn b0d, Sg a07] : List Lx).map (·.t) ++ ts) (by kernel_rfl) (by decide) (by kernel_rfl) (by kernel_rfl)
theorem rG5 (i : Nat) (ts : List Tk) : ClR (tk (lG5 i) ts) (.grant 5 (d59 i) f19) ts := .grant (x := b0c) (vs := ([Wn b01, Sh a7w, N n3 ⟨3, 1⟩ 2 false, Sg a9p, Sg b7t, N n12 ⟨12, 1⟩ 2 true, Sg a7c, N p70 ⟨7, 10⟩ 2 false, Sg a07] : List Lx).map (·.t) ++ ts) (by kernel_rfl) (by decide) (by kernel_rfl) (by kernel_rfl)
theorem rR1 (w : List UInt8) (v : Fraction) (ts : List Tk) : ClR (tk (lR1 w v) ts) (.reduce 1 (aR1 v)) ts := .reduce (x := b7u) (by kernel_rfl) (by decide) (by kernel_rfl)
theorem rR2 (ts : List Tk) : ClR (tk lR2 ts) (.reduce 2 aR2) ts := .reduce (x := a4l) (by kernel_rfl) (by decide) (by kernel_rfl)
theorem kC6 : c0l lC6 = true := by kernel_rfl
theorem kC5 : c0l lC5 = true := by kernel_rfl
theorem kC7 (n : Nat) : c0l (lC7 n) = true := by kernel_rfl
theorem kC10 (n : Nat) : c0l (e7x n) = true := by kernel_rfl
theorem kI0 : c0l lI0 = true := by kernel_rfl
theorem kI1 (w : List UInt8) (v : Fraction) : c0l (lI1 w v) = true := by kernel_rfl
theorem kI2 (w : List UInt8) (v : Fraction) : c0l (lI2 w v) = true := by kernel_rfl
theorem kL1 (n : Nat) : c0l (lL1 n) = true := by kernel_rfl
theorem kL2 (w : List UInt8) (v : Fraction) : c0l (lL2 w v) = true := by kernel_rfl
theorem kG1 (a i m : Nat) : c0l (lG1 a i m) = true := by kernel_rfl
theorem kG2 (i : Nat) (w : List UInt8) (v : Fraction) : c0l (lG2 i w v) = true := by kernel_rfl
theorem kG3 : c0l lG3 = true := by kernel_rfl
theorem kG4 (i m : Nat) : c0l (lG4 i m) = true := by kernel_rfl
theorem kG5 (i : Nat) : c0l (lG5 i) = true := by kernel_rfl
theorem kR1 (w : List UInt8) (v : Fraction) : c0l (lR1 w v) = true := by kernel_rfl
theorem kR2 : c0l lR2 = true := by kernel_rfl
end Go.PL
namespace Go.PL
open Go Go.SX
def c59 (n : Nat) : List UInt8 := a7f 20 (n / 100) ++ (46 :: (a7f 20 (n / 10 % 10) ++ a7f 20 (n % 10)))
def b3n (n : Nat) : Fraction := ⟨((n / Nat.gcd n 100 : Nat) : Int), ((100 / Nat.gcd n 100 : Nat) : Int)⟩
def c1e (a k : Nat) : Bool := (List.range k).all fun i => e95 (c59 (a + i)) (b3n (a + i)) 2
theorem pc0 : c1e 0 100 = true := by kernel_rfl
theorem pc1 : c1e 100 100 = true := by kernel_rfl
theorem pc2 : c1e 200 100 = true := by kernel_rfl
theorem pc3 : c1e 300 100 = true := by kernel_rfl
theorem pc4 : c1e 400 100 = true := by kernel_rfl
theorem pc5 : c1e 500 100 = true := by kernel_rfl
theorem pc6 : c1e 600 100 = true := by kernel_rfl
theorem c3v {a k n : Nat} (h : c1e a k = true) (h0 : a <= n) (h1 : n < a + k) : NumX (c59 n) (b3n n) 2 := by
  have := List.all_eq_true.1 h (n - a) (by simp; omega)
  rw [show a + (n - a) = n by omega] at this
  exact .chk this
theorem c0a {n : Nat} (h : n < 700) : NumX (c59 n) (b3n n) 2 := by
  rcases Nat.lt_or_ge n 100 with h0 | h0
  . exact c3v pc0 (by omega) (by omega)
  rcases Nat.lt_or_ge n 200 with h1 | h1
  . exact c3v pc1 h0 (by omega)
  rcases Nat.lt_or_ge n 300 with h2 | h2
  . exact c3v pc2 h1 (by omega)
  rcases Nat.lt_or_ge n 400 with h3 | h3
  . exact c3v pc3 h2 (by omega)
  rcases Nat.lt_or_ge n 500 with h4 | h4
  . exact c3v pc4 h3 (by omega)
  rcases Nat.lt_or_ge n 600 with h5 | h5
  . exact c3v pc5 h4 (by omega)
  . exact c3v pc6 h5 (by omega)
theorem c4i (n : Nat) : 0 < Nat.gcd n 100 := Nat.gcd_pos_of_pos_right _ (by decide)
theorem c1w {n : Nat} (h : 0 < n) : 0 < (b3n n).Num := by
  have h1 : Nat.gcd n 100 ∣ n := Nat.gcd_dvd_left _ _
  have h2 := Nat.div_pos (Nat.le_of_dvd h h1) (c4i n)
  show (0 : Int) < ((n / Nat.gcd n 100 : Nat) : Int)
  omega
theorem d2v (n : Nat) : (b3n n).Den ≠ 0 := by
  have h1 : Nat.gcd n 100 ∣ 100 := Nat.gcd_dvd_right _ _
  have h2 := Nat.div_pos (Nat.le_of_dvd (by decide) h1) (c4i n)
  show ((100 / Nat.gcd n 100 : Nat) : Int) ≠ 0
  omega
theorem d00 {n : Nat} (h : n < 1000) : q6 (n : Int) = some ⟨(c59 n).toArray⟩ := by
  unfold q6
  have q1 : b5i (n : Int) 100 = some ((n / 100 : Nat) : Int) := by unfold b5i; rw [if_neg (by decide), Int.tdiv_eq_ediv_of_nonneg (by omega), i8 (by omega) (by omega)]; congr 1
  have q2 : b5i (n : Int) 10 = some ((n / 10 : Nat) : Int) := by unfold b5i; rw [if_neg (by decide), Int.tdiv_eq_ediv_of_nonneg (by omega), i8 (by omega) (by omega)]; congr 1
  have r1 : b2j ((n / 10 : Nat) : Int) 10 = some ((n / 10 % 10 : Nat) : Int) := by unfold b2j; rw [if_neg (by decide), Int.tmod_eq_emod_of_nonneg (by omega)]; congr 1
  have r2 : b2j (n : Int) 10 = some ((n % 10 : Nat) : Int) := by unfold b2j; rw [if_neg (by decide), Int.tmod_eq_emod_of_nonneg (by omega)]; congr 1
  have l0 : ∀ m, m < 10 -> (a7f 20 m).length <= 1 := fun m hm => b95 20 m 0 (by omega)
  have a0 := l0 (n / 100) (by omega)
  have a1 := l0 (n / 10 % 10) (by omega)
  have a2 := l0 (n % 10) (by omega)
  have c1 : a40 ⟨(a7f 20 (n / 100)).toArray⟩ a8a = some ⟨(a7f 20 (n / 100) ++ [46]).toArray⟩ := c8d (b := [46]) (by simp; omega)
  have c2 : a40 ⟨(a7f 20 (n / 100) ++ [46]).toArray⟩ ⟨(a7f 20 (n / 10 % 10)).toArray⟩ = some ⟨(a7f 20 (n / 100) ++ [46] ++ a7f 20 (n / 10 % 10)).toArray⟩ := c8d (by simp; omega)
  have c3 : a40 ⟨(a7f 20 (n / 100) ++ [46] ++ a7f 20 (n / 10 % 10)).toArray⟩ ⟨(a7f 20 (n % 10)).toArray⟩ = some ⟨(a7f 20 (n / 100) ++ [46] ++ a7f 20 (n / 10 % 10) ++ a7f 20 (n % 10)).toArray⟩ := c8d (by simp; omega)
  simp only [q1, q2, r1, r2, Option.bind_some, b4x (show n / 100 < 1000000 by omega), b4x (show n / 10 % 10 < 1000000 by omega), b4x (show n % 10 < 1000000 by omega), c1, c2, c3]
  unfold c59
  simp
end Go.PL
namespace Go.PL
open Go Go.SX
structure Ps where
  day : Int
  date : List UInt8
  m : Int
  mx : ByteArray
  u : Nat
  l7 : Nat
  l10 : Nat
  c1 : Bool
  c2 : Bool
  c3 : Bool
  c4 : Bool
  c5 : Bool
  na : Nat
  nb : Nat
  np : Nat
  yr : Nat
  g1a : Nat
  g1i : Nat
  g1m : Nat
  g2i : Nat
  nd : Nat
  g4i : Nat
  g4m : Nat
  g5i : Nat
  nr : Nat
structure PsOK (P : Ps) : Prop where
  dt : c7l (64 :: P.date) P.day = true
  d0 : 0 <= P.day
  d1 : P.day <= 73048
  mw : d0v P.mx = true
  mo : ofW P.mx 3 = some P.m
  m0 : 1 <= P.m
  m1 : P.m <= 4
  mS : nz (a13 d3x P.m) = true
  u0 : 1 <= P.u
  u1 : P.u <= 100000
  l70 : 1 <= P.l7
  l71 : P.l7 <= 73049
  l100 : 1 <= P.l10
  l101 : P.l10 <= 73049
  na0 : 1 <= P.na
  na1 : P.na < 700
  nb0 : 1 <= P.nb
  nb1 : P.nb < 700
  np1 : P.np < 700
  nd1 : P.nd < 700
  nr1 : P.nr < 700
  yr1 : P.yr <= 100000
  a1 : P.g1a <= 100000
  a2 : P.g1i <= 100000
  a3 : P.g1m <= 100000
  a4 : P.g2i <= 100000
  a5 : P.g4i <= 100000
  a6 : P.g4m <= 100000
  a7 : P.g5i <= 100000
def Ps.prs (P : Ps) : List (List Lx × Cl) :=
  [(lC6, .credit 6 0), (lC7 P.l7, .credit 7 P.l7)] ++ ((if P.c1 then [(e7x P.l10, .credit 10 P.l10)] else []) ++ ((if P.c2 then [(lC5, .credit 5 0)] else []) ++
  ([(lI0, .index 1960 ⟨1, 1⟩), (lI1 (c59 P.na) (b3n P.na), .index 1980 (b3n P.na)), (lI2 (c59 P.nb) (b3n P.nb), .index 1995 (b3n P.nb)), (lL1 P.yr, .lett a5r (aL1 P.yr)), (lL2 (c59 P.np) (b3n P.np), .lett a9c (aL2 (b3n P.np))),
    (lG1 P.g1a P.g1i P.g1m, .grant 1 (f1c P.g1a P.g1i) (f0u P.g1m)), (lG2 P.g2i (c59 P.nd) (b3n P.nd), .grant 2 (d59 P.g2i) (f1u (b3n P.nd)))] ++
  ((if P.c3 then [(lG3, .grant 3 e8v f0e)] else []) ++ ([(lG4 P.g4i P.g4m, .grant 4 (d59 P.g4i) (f2t P.g4m)), (lG5 P.g5i, .grant 5 (d59 P.g5i) f19)] ++
  ((if P.c4 then [(lR1 (c59 P.nr) (b3n P.nr), .reduce 1 (aR1 (b3n P.nr)))] else []) ++ (if P.c5 then [(lR2, .reduce 2 aR2)] else [])))))))
def d4h (P : Ps) : List Lx := [W b2t, ⟨.d P.day, 64 :: P.date, true⟩, Sg b2b, W b0g, W P.mx, num P.u [] 2 false, Sg a07]
def Ps.cls (P : Ps) : List Cl := P.prs.map (·.2)
def fl (l : List (List Lx × Cl)) : List Lx := l.flatMap (·.1)
def lxV (P : Ps) : List Lx := d4h P ++ (fl P.prs ++ [Sg a2i])
structure PrOK (p : List Lx × Cl) : Prop where
  k : c0l p.1 = true
  n : c89 p.1
  r : ∀ ts, ClR (tk p.1 ts) p.2 ts
theorem b78 {α : Type} {b : Bool} {x : α} {l : List α} (h : x ∈ (if b = true then l else [])) : x ∈ l := by cases b with | false => cases h | true => exact h
theorem e58 {P : Ps} (h : PsOK P) : ∀ p ∈ P.prs, PrOK p := by
  have w2 : ∀ {n : Nat}, n <= 100000 -> NumX (a7f 20 n ++ []) ⟨(n : Int), 1⟩ 2 := fun hn => .whole hn (.inl ⟨rfl, rfl⟩)
  have w3 : ∀ {n : Nat}, n <= 100000 -> NumX (a7f 20 n ++ [100]) ⟨(n : Int), 1⟩ 3 := fun hn => .whole hn (.inr (.inl ⟨rfl, rfl⟩))
  have w4 : ∀ {n : Nat}, n <= 100000 -> NumX (a7f 20 n ++ [109]) ⟨(n : Int), 1⟩ 4 := fun hn => .whole hn (.inr (.inr ⟨rfl, rfl⟩))
  have h1 := h.l71
  have h2 := h.l101
  have t := trivial
  intro p hp
  unfold Ps.prs at hp
  rcases List.mem_append.1 hp with hp | hp
  . simp only [List.mem_cons, List.not_mem_nil, or_false] at hp
    rcases hp with rfl | rfl
    . exact ⟨kC6, ⟨t, t, t, t⟩, rC6⟩
    . exact ⟨kC7 _, ⟨t, t, t, w2 (by omega), t, t⟩, rC7 h.l70 h.l71⟩
  rcases List.mem_append.1 hp with hp | hp
  . have hp := b78 hp
    rw [List.mem_singleton] at hp; subst hp
    exact ⟨kC10 _, ⟨t, t, t, w2 (by omega), t, t⟩, rC10 h.l100 h.l101⟩
  rcases List.mem_append.1 hp with hp | hp
  . have hp := b78 hp
    rw [List.mem_singleton] at hp; subst hp
    exact ⟨kC5, ⟨t, t, t, t⟩, rC5⟩
  rcases List.mem_append.1 hp with hp | hp
  . simp only [List.mem_cons, List.not_mem_nil, or_false] at hp
    rcases hp with rfl | rfl | rfl | rfl | rfl | rfl | rfl
    . exact ⟨kI0, ⟨t, f6y, x1, t, t⟩, rI0⟩
    . exact ⟨kI1 _ _, ⟨t, f7u, c0a h.na1, t, t⟩, rI1 (c1w h.na0) (d2v _)⟩
    . exact ⟨kI2 _ _, ⟨t, f5z, c0a h.nb1, t, t⟩, rI2 (c1w h.nb0) (d2v _)⟩
    . exact ⟨kL1 _, ⟨t, t, t, t, t, w3 h.yr1, t, t⟩, rL1 _⟩
    . exact ⟨kL2 _ _, ⟨t, t, t, t, t, t, t, c0a h.np1, t, f8n, t, t, t⟩, rL2 _ _⟩
    . exact ⟨kG1 _ _ _, ⟨t, t, t, t, t, w2 h.a1, t, t, t, w3 h.a2, t, t, t, t, t, t, t, w4 h.a3, t, t, t⟩, rG1 _ _ _⟩
    . exact ⟨kG2 _ _ _, ⟨t, t, t, t, t, w3 h.a4, t, t, t, c0a h.nd1, t, t⟩, rG2 _ _ _⟩
  rcases List.mem_append.1 hp with hp | hp
  . have hp := b78 hp
    rw [List.mem_singleton] at hp; subst hp
    exact ⟨kG3, ⟨t, t, t, t, t, t, t, x30d, t, t, t, t, t, xp60, t, t⟩, rG3⟩
  rcases List.mem_append.1 hp with hp | hp
  . simp only [List.mem_cons, List.not_mem_nil, or_false] at hp
    rcases hp with rfl | rfl
    . exact ⟨kG4 _ _, ⟨t, t, t, t, t, w3 h.a5, t, w4 h.a6, t, t, t, t⟩, rG4 _ _⟩
    . exact ⟨kG5 _, ⟨t, t, t, t, t, w3 h.a7, t, t, t, x3, t, t, x12, t, xp70, t, t⟩, rG5 _⟩
  rcases List.mem_append.1 hp with hp | hp
  . have hp := b78 hp
    rw [List.mem_singleton] at hp; subst hp
    exact ⟨kR1 _ _, ⟨t, t, t, c0a h.nr1, t, t⟩, rR1 _ _⟩
  . have hp := b78 hp
    rw [List.mem_singleton] at hp; subst hp
    exact ⟨kR2, ⟨t, t, t, t, t, t, x60, t, xp50, t, x1, t, t⟩, rR2⟩
theorem e75 : ∀ (l : List (List Lx × Cl)), (∀ p ∈ l, PrOK p) -> ∀ rest, okA (fl l) rest
  | [], _, _ => trivial
  | p :: l, h, rest => a80 p.1 (fl l) rest (c0h p.1 (h p (by simp)).k (h p (by simp)).n _) (e75 l (fun q hq => h q (by simp [hq])) rest)
theorem e5b : ∀ (l : List (List Lx × Cl)), (∀ p ∈ l, PrOK p) -> ∀ ts, ClsR (tk (fl l ++ [Sg a2i]) ts) (l.map (·.2)) ts
  | [], _, ts => ClsR.nil
  | p :: l, h, ts => by
    have h1 := (h p (by simp)).r (tk (fl l ++ [Sg a2i]) ts)
    have h2 := e5b l (fun q hq => h q (by simp [hq])) ts
    have e : tk (fl (p :: l) ++ [Sg a2i]) ts = tk p.1 (tk (fl l ++ [Sg a2i]) ts) := by
      unfold tk fl
      simp
    rw [e]
    exact ClsR.cons h1 h2
theorem e8m (P : Ps) : P.cls.length <= 900 := by
  unfold Ps.cls Ps.prs
  simp only [List.length_map, List.length_append, List.length_cons, List.length_nil]
  have e : ∀ (b : Bool) (x : List Lx × Cl), (if b = true then [x] else []).length <= 1 := fun b x => by cases b <;> simp
  have e1 := e P.c1 (e7x P.l10, .credit 10 P.l10)
  have e2 := e P.c2 (lC5, .credit 5 0)
  have e3 := e P.c3 (lG3, .grant 3 e8v f0e)
  have e4 := e P.c4 (lR1 (c59 P.nr) (b3n P.nr), .reduce 1 (aR1 (b3n P.nr)))
  have e5 := e P.c5 (lR2, .reduce 2 aR2)
  omega
def Ps.ver (P : Ps) : Version := f1b P.day P.m P.u P.cls
theorem f3c {P : Ps} (h : PsOK P) (ts : List Tk) : VerR (tk (lxV P) ts) P.ver ts := by
  refine ⟨⟨P.day, P.m, P.u, P.mx, P.cls, tk (fl P.prs ++ [Sg a2i]) ts, ?_, h.mo, by have := h.m0; omega, by have := h.u0; omega, by have := h.u1; omega, e5b P.prs (e58 h) ts, e8m P, rfl⟩⟩
  unfold lxV tk
  rw [List.map_append, List.append_assoc]
  rfl
theorem d7n {P : Ps} (h : PsOK P) (rest : List UInt8) : okA (lxV P) rest := by
  have k0 : c0l (d4h P) = true := by
    unfold d4h
    simp only [c0l, W, Sg, num, N, BEq.rfl, nx, h.dt, h.mw, Bool.true_and, Bool.and_true, Bool.true_or]
    kernel_rfl
  have n0 : c89 (d4h P) := ⟨trivial, trivial, trivial, trivial, trivial, .whole h.u1 (.inl ⟨rfl, rfl⟩), trivial, trivial⟩
  refine a80 _ _ _ (c0h _ k0 n0 _) (a80 _ _ _ (e75 _ (e58 h) _) (c0h [Sg a2i] (by kernel_rfl) ⟨trivial, trivial⟩ _))
end Go.PL
namespace Go.PL
open Go Go.SX
def c9q : List Binding := [⟨a5r, 2⟩, ⟨a9c, 2⟩]
def Ps.crs (P : Ps) : List Credit := [⟨6, 0⟩, ⟨7, P.l7⟩] ++ ((if P.c1 then [⟨10, P.l10⟩] else []) ++ (if P.c2 then [⟨5, 0⟩] else []))
def Ps.ixs (P : Ps) : List Index := [⟨1960, ⟨1, 1⟩⟩, ⟨1980, b3n P.na⟩, ⟨1995, b3n P.nb⟩]
def Ps.lts (P : Ps) : List Let := [⟨a5r, (aL1 P.yr).e⟩, ⟨a9c, (aL2 (b3n P.np)).e⟩]
def Ps.grs (P : Ps) : List Grant := [⟨1, (f1c P.g1a P.g1i).e, (f0u P.g1m).e⟩, ⟨2, (d59 P.g2i).e, (f1u (b3n P.nd)).e⟩] ++ ((if P.c3 then [⟨3, e8v.e, f0e.e⟩] else []) ++ [⟨4, (d59 P.g4i).e, (f2t P.g4m).e⟩, ⟨5, (d59 P.g5i).e, f19.e⟩])
def Ps.rds (P : Ps) : List Reduce := (if P.c4 then [⟨1, (aR1 (b3n P.nr)).e⟩] else []) ++ (if P.c5 then [⟨2, aR2.e⟩] else [])
theorem e7m (P : Ps) : P.ver = ⟨P.day, ⟨P.m, P.u⟩, P.crs, P.ixs, P.lts, P.grs, P.rds⟩ := by
  obtain ⟨day, date, m, mx, u, l7, l10, c1, c2, c3, c4, c5, na, nb, np, yr, g1a, g1i, g1m, g2i, nd, g4i, g4m, g5i, nr⟩ := P
  cases c1 <;> cases c2 <;> cases c3 <;> cases c4 <;> cases c5 <;> rfl
theorem b0b {w : List UInt8} {v : Fraction} {d : Int} (h : NumX w v d) : (AE.lit v d).ok := .mk ⟨h.f5, h.fS⟩ fun b hb => by cases hb
theorem c2n {s : ByteArray} (h : (match s5 s, a4b s with | some true, some true => true | _, _ => false) = true) : (AE.nm s).ok := by
  refine .mk ?_ fun b hb => by cases hb
  split at h
  . rename_i h1 h2; exact ⟨h1, h2⟩
  . cases h
theorem e8t {k : Int} (h0 : 1 <= k) (h1 : k <= 45) : (AE.best k).ok := .mk ⟨h0, h1⟩ fun b hb => by cases hb
theorem a7k {op : Int} {a b : AE} (h0 : 7 <= op) (h1 : op <= 20) (ha : a.ok) (hb : b.ok) : (AE.bin op a b).ok := .mk ⟨h0, h1⟩ fun x hx => by simp [AE.args] at hx; rcases hx with rfl | rfl <;> assumption
theorem f5c {a b c : AE} (ha : a.ok) (hb : b.ok) (hc : c.ok) : (AE.ite a b c).ok := .mk trivial fun x hx => by simp [AE.args] at hx; rcases hx with rfl | rfl | rfl <;> assumption
theorem f4s : (AE.nm b7n).ok := c2n (by kernel_rfl)
theorem e4e : (AE.nm a3p).ok := c2n (by kernel_rfl)
theorem d7c : (AE.nm a8t).ok := c2n (by kernel_rfl)
theorem c91 : (AE.nm a9c).ok := c2n (by kernel_rfl)
theorem c2w : (AE.nm a5r).ok := c2n (by kernel_rfl)
theorem e3k : (AE.nm b4a).ok := c2n (by kernel_rfl)
theorem f8h : (AE.nm b27).ok := c2n (by kernel_rfl)
theorem f7m : (AE.nm b0d).ok := c2n (by kernel_rfl)
theorem env0 : d0a [] := ⟨by simp, fun b hb => by cases hb⟩
theorem env1 : d0a [⟨a5r, 2⟩] := ⟨by simp, fun b hb => by rw [List.mem_singleton] at hb; subst hb; exact ⟨by show (1 : Int) <= 2; decide, by show (2 : Int) <= 4; decide⟩⟩
theorem env2 : d0a c9q := ⟨by simp [c9q], fun b hb => by
  simp only [c9q, List.mem_cons, List.not_mem_nil, or_false] at hb
  rcases hb with rfl | rfl <;> exact ⟨by show (1 : Int) <= 2; decide, by show (2 : Int) <= 4; decide⟩⟩
theorem e1m {env : List Binding} {a : AE} {d : Int} (h : a.ok) (hd : Nat.ble a.dep 10 = true) (hs : Nat.ble a.sz 60 = true) (hi : a.inf env = some d) : ExOK env a.e d := ⟨a, rfl, h, Nat.le_of_ble_eq_true hd, Nat.le_of_ble_eq_true hs, hi⟩
theorem e6b {s : ByteArray} (h : (AE.nm s).ok) : b1j s = some true := by
  unfold b1j
  rw [show (⟨2, ⟨0, 0⟩, 0, s, []⟩ : Expr) = (AE.nm s).e from rfl, b64 h (show 1 <= 10 by decide) (show 1 <= 60 by decide)]
  rfl
theorem f4p {P : Ps} (h : PsOK P) : b2c P.lts = some (c9q, 0) := by
  have k1 : (aL1 P.yr).ok := a7k (by decide) (by decide) e4e (b0b (.whole h.yr1 (.inr (.inl ⟨rfl, rfl⟩))))
  have k2 : (aL2 (b3n P.np)).ok := a7k (by decide) (by decide) (a7k (by decide) (by decide) c2w (b0b (c0a h.np1))) (b0b f8n)
  have i1 := c5w env0 k1 (Nat.le_of_ble_eq_true (by kernel_rfl)) (Nat.le_of_ble_eq_true (by kernel_rfl)) (d := 2) (by kernel_rfl)
  have i2 := c5w env1 k2 (Nat.le_of_ble_eq_true (by kernel_rfl)) (Nat.le_of_ble_eq_true (by kernel_rfl)) (d := 2) (by kernel_rfl)
  unfold b2c
  have hlen : P.lts.length = 2 := rfl
  rw [if_neg (by rw [hlen]; decide)]
  obtain ⟨m, hm⟩ := d3t
  rw [hm, j8]
  generalize hA : d9 (m + 1 + 1) (a5n P.lts) = A
  unfold a5n
  have g0 : l8 P.lts 0 = some ⟨a5r, (aL1 P.yr).e⟩ := rfl
  have g1 : l8 P.lts 1 = some ⟨a9c, (aL2 (b3n P.np)).e⟩ := rfl
  have c0 : p4 [] ⟨a5r, (aL1 P.yr).e⟩ = some false := by kernel_rfl
  have c1 : p4 [⟨a5r, 2⟩] ⟨a9c, (aL2 (b3n P.np)).e⟩ = some false := by kernel_rfl
  have n0 : a6d a5r = some (0, false) := by kernel_rfl
  have n1 : a6d a9c = some (0, false) := by kernel_rfl
  have a0 : a8w 24 ([] : List Binding) [⟨a5r, 2⟩] = some [⟨a5r, 2⟩] := b13 (by simp) (by decide)
  have a1 : a8w 24 ([⟨a5r, 2⟩] : List Binding) [⟨a9c, 2⟩] = some c9q := b13 (by simp) (by decide)
  simp only [hlen, show decide ((0 : Int) < ((2 : Nat) : Int)) = true from rfl, if_true, g0, Option.bind_some, n0, Bool.false_eq_true, if_false, e6b c2w, Bool.not_true, c0, i1, show ((0 : Int) != 0) = false from rfl, a0]
  rw [<- hA, j8]
  generalize hB : d9 (m + 1) (a5n P.lts) = B
  unfold a5n
  simp only [hlen, show i64 (0 + 1) = 1 from rfl, show decide ((1 : Int) < ((2 : Nat) : Int)) = true from rfl, if_true, g1, Option.bind_some, n1, Bool.false_eq_true, if_false, e6b c91, Bool.not_true, c1, i2, show ((0 : Int) != 0) = false from rfl, a1]
  rw [<- hB, j8]
  unfold a5n
  simp only [hlen, show i64 (1 + 1) = 2 from rfl, show decide ((2 : Int) < ((2 : Nat) : Int)) = false from rfl, Bool.false_eq_true, if_false]
theorem d91 {P : Ps} (h : PsOK P) : VOK c9q P.ver := by
  have hl7 := h.l71
  have w2 : ∀ {n : Nat}, n <= 100000 -> (AE.lit ⟨(n : Int), 1⟩ 2).ok := fun hn => b0b (.whole hn (.inl ⟨rfl, rfl⟩))
  have w3 : ∀ {n : Nat}, n <= 100000 -> (AE.lit ⟨(n : Int), 1⟩ 3).ok := fun hn => b0b (.whole hn (.inr (.inl ⟨rfl, rfl⟩)))
  have w4 : ∀ {n : Nat}, n <= 100000 -> (AE.lit ⟨(n : Int), 1⟩ 4).ok := fun hn => b0b (.whole hn (.inr (.inr ⟨rfl, rfl⟩)))
  have kIns : ∀ {i : Nat}, i <= 100000 -> ExOK c9q (d59 i).e 1 := fun hi => e1m (a7k (by decide) (by decide) e4e (w3 hi)) (by kernel_rfl) (by kernel_rfl) (by kernel_rfl)
  have k1i : ExOK c9q (f1c P.g1a P.g1i).e 1 := e1m (a7k (by decide) (by decide) (a7k (by decide) (by decide) f4s (w2 h.a1)) (a7k (by decide) (by decide) e4e (w3 h.a2))) (by kernel_rfl) (by kernel_rfl) (by kernel_rfl)
  have k1p : ExOK c9q (f0u P.g1m).e 4 := e1m (a7k (by decide) (by decide) (a7k (by decide) (by decide) d7c c91) (w4 h.a3)) (by kernel_rfl) (by kernel_rfl) (by kernel_rfl)
  have k2p : ExOK c9q (f1u (b3n P.nd)).e 4 := e1m (a7k (by decide) (by decide) d7c (b0b (c0a h.nd1))) (by kernel_rfl) (by kernel_rfl) (by kernel_rfl)
  have k3i : ExOK c9q e8v.e 1 := e1m (a7k (by decide) (by decide) (a7k (by decide) (by decide) e3k f8h) (b0b x30d)) (by kernel_rfl) (by kernel_rfl) (by kernel_rfl)
  have k3p : ExOK c9q f0e.e 4 := e1m (a7k (by decide) (by decide) (a7k (by decide) (by decide) d7c c91) (b0b xp60)) (by kernel_rfl) (by kernel_rfl) (by kernel_rfl)
  have k4p : ExOK c9q (f2t P.g4m).e 4 := e1m (a7k (by decide) (by decide) (w4 h.a6) f7m) (by kernel_rfl) (by kernel_rfl) (by kernel_rfl)
  have k5p : ExOK c9q f19.e 4 := e1m (a7k (by decide) (by decide) (a7k (by decide) (by decide) (e8t (by decide) (by decide)) (b0b x12)) (b0b xp70)) (by kernel_rfl) (by kernel_rfl) (by kernel_rfl)
  have kr1 : ExOK c9q (aR1 (b3n P.nr)).e 2 := e1m (b0b (c0a h.nr1)) (by kernel_rfl) (by kernel_rfl) (by kernel_rfl)
  have kr2 : ExOK c9q aR2.e 2 := e1m (f5c (a7k (by decide) (by decide) f4s (b0b x60)) (b0b xp50) (b0b x1)) (by kernel_rfl) (by kernel_rfl) (by kernel_rfl)
  have b1 : BnOK 1 := ⟨by kernel_rfl, by kernel_rfl⟩
  have b2 : BnOK 2 := ⟨by kernel_rfl, by kernel_rfl⟩
  have b3 : BnOK 3 := ⟨by kernel_rfl, by kernel_rfl⟩
  have b4 : BnOK 4 := ⟨by kernel_rfl, by kernel_rfl⟩
  have b5 : BnOK 5 := ⟨by kernel_rfl, by kernel_rfl⟩
  have e1 : ∀ {α : Type} (b : Bool) (x : α), (if b = true then [x] else []).length <= 1 := fun b x => by cases b <;> simp
  have ls := f4p h
  have hu := h.u0
  have hu1 := h.u1
  have hl10 := h.l101
  rw [e7m]
  refine ⟨h.d0, h.d1, h.m0, h.m1, h.mS, by show (1 : Int) <= (P.u : Int); omega, by show (P.u : Int) <= 100000; omega, ?_, by show (3 : Nat) <= 20; decide, by show (2 : Nat) <= 10; decide, ?_, ?_, ?_, ?_, ?_, ?_, ?_, ls, env2, ?_, ?_, ?_, ?_⟩
  . show P.crs.length <= 6
    unfold Ps.crs
    have := e1 P.c1 (⟨10, P.l10⟩ : Credit); have := e1 P.c2 (⟨5, 0⟩ : Credit)
    simp only [List.length_append, List.length_cons, List.length_nil]; omega
  . show P.grs.length <= 5
    unfold Ps.grs
    have := e1 P.c3 (⟨3, e8v.e, f0e.e⟩ : Grant)
    simp only [List.length_append, List.length_cons, List.length_nil]; omega
  . show P.rds.length <= 5
    unfold Ps.rds
    have := e1 P.c4 (⟨1, (aR1 (b3n P.nr)).e⟩ : Reduce); have := e1 P.c5 (⟨2, aR2.e⟩ : Reduce)
    simp only [List.length_append]; omega
  . intro c hc
    have hc : c ∈ P.crs := hc
    unfold Ps.crs at hc
    rcases List.mem_append.1 hc with hc | hc
    . simp only [List.mem_cons, List.not_mem_nil, or_false] at hc
      rcases hc with rfl | rfl
      . exact ⟨by kernel_rfl, by kernel_rfl, by show (0 : Int) <= 0; decide, by show (0 : Int) <= 73049; decide⟩
      . exact ⟨by kernel_rfl, by kernel_rfl, by show (0 : Int) <= (P.l7 : Int); omega, by show (P.l7 : Int) <= 73049; omega⟩
    rcases List.mem_append.1 hc with hc | hc
    . have hc := b78 hc
      rw [List.mem_singleton] at hc; subst hc
      exact ⟨by kernel_rfl, by kernel_rfl, by show (0 : Int) <= (P.l10 : Int); omega, by show (P.l10 : Int) <= 73049; omega⟩
    . have hc := b78 hc
      rw [List.mem_singleton] at hc; subst hc
      exact ⟨by kernel_rfl, by kernel_rfl, by show (0 : Int) <= 0; decide, by show (0 : Int) <= 73049; decide⟩
  . show P.crs.Pairwise _
    unfold Ps.crs
    cases P.c1 <;> cases P.c2 <;> simp
  . intro x hx
    have hx : x ∈ P.ixs := hx
    unfold Ps.ixs at hx
    simp only [List.mem_cons, List.not_mem_nil, or_false] at hx
    rcases hx with rfl | rfl | rfl
    . exact ⟨by show (1900 : Int) <= 1960; decide, by show (1960 : Int) <= 2099; decide, by show (1 : Int) <= 1; decide, x1.f5, x1.fS⟩
    . exact ⟨by show (1900 : Int) <= 1980; decide, by show (1980 : Int) <= 2099; decide, c1w h.na0, (c0a h.na1).f5, (c0a h.na1).fS⟩
    . exact ⟨by show (1900 : Int) <= 1995; decide, by show (1995 : Int) <= 2099; decide, c1w h.nb0, (c0a h.nb1).f5, (c0a h.nb1).fS⟩
  . show P.ixs.Pairwise _
    unfold Ps.ixs
    simp
  . intro x hx
    have hx : x ∈ P.lts := hx
    unfold Ps.lts at hx
    simp only [List.mem_cons, List.not_mem_nil, or_false] at hx
    have k1 : (aL1 P.yr).ok := a7k (by decide) (by decide) e4e (w3 h.yr1)
    have k2 : (aL2 (b3n P.np)).ok := a7k (by decide) (by decide) (a7k (by decide) (by decide) c2w (b0b (c0a h.np1))) (b0b f8n)
    rcases hx with rfl | rfl
    . exact ⟨c2w.leaf.1, c2w.leaf.2, c6j k1 (Nat.le_of_ble_eq_true (by kernel_rfl)) (Nat.le_of_ble_eq_true (by kernel_rfl)), b64 k1 (Nat.le_of_ble_eq_true (by kernel_rfl)) (Nat.le_of_ble_eq_true (by kernel_rfl))⟩
    . exact ⟨c91.leaf.1, c91.leaf.2, c6j k2 (Nat.le_of_ble_eq_true (by kernel_rfl)) (Nat.le_of_ble_eq_true (by kernel_rfl)), b64 k2 (Nat.le_of_ble_eq_true (by kernel_rfl)) (Nat.le_of_ble_eq_true (by kernel_rfl))⟩
  . intro g hg
    have hg : g ∈ P.grs := hg
    unfold Ps.grs at hg
    rcases List.mem_append.1 hg with hg | hg
    . simp only [List.mem_cons, List.not_mem_nil, or_false] at hg
      rcases hg with rfl | rfl
      . exact ⟨b1, k1i, k1p⟩
      . exact ⟨b2, kIns h.a4, k2p⟩
    rcases List.mem_append.1 hg with hg | hg
    . have hg := b78 hg
      rw [List.mem_singleton] at hg; subst hg
      exact ⟨b3, k3i, k3p⟩
    . simp only [List.mem_cons, List.not_mem_nil, or_false] at hg
      rcases hg with rfl | rfl
      . exact ⟨b4, kIns h.a5, k4p⟩
      . exact ⟨b5, kIns h.a7, k5p⟩
  . show P.grs.Pairwise _
    unfold Ps.grs
    cases P.c3 <;> simp
  . intro r hr
    have hr : r ∈ P.rds := hr
    unfold Ps.rds at hr
    rcases List.mem_append.1 hr with hr | hr
    . have hr := b78 hr
      rw [List.mem_singleton] at hr; subst hr
      exact ⟨b1, kr1⟩
    . have hr := b78 hr
      rw [List.mem_singleton] at hr; subst hr
      exact ⟨b2, kr2⟩
  . show P.rds.Pairwise _
    unfold Ps.rds
    cases P.c4 <;> cases P.c5 <;> simp
end Go.PL
namespace Go.PL
open Go Go.SX
theorem u7 {a b c : ByteArray} (h : a40 a b = some c) : bl c = bl a ++ bl b := by
  unfold a40 at h
  split at h
  . have h := Option.some.inj h
    subst h
    unfold bl
    rw [ByteArray.data_append, Array.toList_append]
  . cases h
theorem a3y {a n v : Int} (h : b6 a n = some v) (hn : 0 < n) (h1 : n <= 9223372036854775807) : 0 <= v /\ v < n := by
  obtain ⟨r, hr, h2⟩ := a0t (a := a) hn h1
  rw [hr] at h
  have h := Option.some.inj h
  subst h
  exact h2
theorem c3f {x : Int} {s : ByteArray} (h : k6 x = some s) {n : Nat} (e : x = (n : Int)) (hn : n < 1000000) : bl s = a7f 20 n := by
  subst e
  rw [b4x hn] at h
  have h := Option.some.inj h
  subst h
  rfl
theorem e17 {x : Int} {s : ByteArray} (h : q6 x = some s) {n : Nat} (e : x = (n : Int)) (hn : n < 1000) : bl s = c59 n := by
  subst e
  rw [d00 hn] at h
  have h := Option.some.inj h
  subst h
  rfl
def T (l : List (List Lx × Cl)) : List UInt8 := y7 (fl l)
theorem c1b (p : List Lx × Cl) (l : List (List Lx × Cl)) : T (p :: l) = y7 p.1 ++ T l := by
  unfold T fl
  rw [List.flatMap_cons, a3j]
theorem c9w : T [] = [] := rfl
theorem b4u (a b : List (List Lx × Cl)) : T (a ++ b) = T a ++ T b := by
  unfold T fl
  rw [List.flatMap_append, a3j]
theorem tEnd : y7 [Sg a2i] = bl a9x := rfl
theorem tC67 (n : Nat) : y7 lC6 ++ y7 (lC7 n) = bl b83 ++ (a7f 20 n ++ bl a3c) := by
  simp only [y7, lC6, lC7, W, Sg, Wn, Sh, num, N, blk, cond_true, cond_false, List.append_assoc, List.nil_append]; rfl
theorem tC10 (n : Nat) : y7 (e7x n) = bl b7l ++ (a7f 20 n ++ bl a3c) := by
  simp only [y7, e7x, W, Sg, Wn, Sh, num, N, blk, cond_true, cond_false, List.append_assoc, List.nil_append]; rfl
theorem tC5 : y7 lC5 = bl b8i := by kernel_rfl
theorem tI (w1 w2 : List UInt8) (v1 v2 : Fraction) : y7 lI0 ++ (y7 (lI1 w1 v1) ++ y7 (lI2 w2 v2)) = bl b8f ++ (w1 ++ (bl b8b ++ (w2 ++ bl a3c))) := by
  simp only [y7, lI0, lI1, lI2, W, Sg, Wn, Sh, num, N, blk, cond_true, cond_false, List.append_assoc, List.nil_append]; rfl
theorem tL (n : Nat) (w : List UInt8) (v : Fraction) : y7 (lL1 n) ++ y7 (lL2 w v) = bl b7z ++ (a7f 20 n ++ (bl b7x ++ (w ++ bl b7r))) := by
  simp only [y7, lL1, lL2, W, Sg, Wn, Sh, num, N, blk, cond_true, cond_false, List.append_assoc, List.nil_append]; rfl
theorem tG1 (a i m : Nat) : y7 (lG1 a i m) = bl b7m ++ (a7f 20 a ++ (bl b7y ++ (a7f 20 i ++ (bl b7o ++ (a7f 20 m ++ bl b67))))) := by
  simp only [y7, lG1, W, Sg, Wn, Sh, num, N, blk, cond_true, cond_false, List.append_assoc, List.nil_append]; rfl
theorem tG2 (i : Nat) (w : List UInt8) (v : Fraction) : y7 (lG2 i w v) = bl b81 ++ (a7f 20 i ++ (bl b7f ++ (w ++ bl a3c))) := by
  simp only [y7, lG2, W, Sg, Wn, Sh, num, N, blk, cond_true, cond_false, List.append_assoc, List.nil_append]; rfl
theorem tG3 : y7 lG3 = bl b7q := by kernel_rfl
theorem tG4 (i m : Nat) : y7 (lG4 i m) = bl b7j ++ (a7f 20 i ++ (bl c0d ++ (a7f 20 m ++ bl b8h))) := by
  simp only [y7, lG4, W, Sg, Wn, Sh, num, N, blk, cond_true, cond_false, List.append_assoc, List.nil_append]; rfl
theorem tG5 (i : Nat) : y7 (lG5 i) = bl b7h ++ (a7f 20 i ++ bl b7k) := by
  simp only [y7, lG5, W, Sg, Wn, Sh, num, N, blk, cond_true, cond_false, List.append_assoc, List.nil_append]; rfl
theorem tR1 (w : List UInt8) (v : Fraction) : y7 (lR1 w v) = bl a8b ++ (w ++ bl a3c) := by
  simp only [y7, lR1, W, Sg, Wn, Sh, num, N, blk, cond_true, cond_false, List.append_assoc, List.nil_append]; rfl
theorem tR2 : y7 lR2 = bl b50 := by kernel_rfl
def q5 (c5 : Bool) : List (List Lx × Cl) := if c5 then [(lR2, .reduce 2 aR2)] else []
def q4 (g4i g4m g5i nr : Nat) (c4 c5 : Bool) : List (List Lx × Cl) := [(lG4 g4i g4m, .grant 4 (d59 g4i) (f2t g4m)), (lG5 g5i, .grant 5 (d59 g5i) f19)] ++ ((if c4 then [(lR1 (c59 nr) (b3n nr), .reduce 1 (aR1 (b3n nr)))] else []) ++ q5 c5)
def q3 (na nb np yr g1a g1i g1m g2i nd g4i g4m g5i nr : Nat) (c3 c4 c5 : Bool) : List (List Lx × Cl) :=
  [(lI0, .index 1960 ⟨1, 1⟩), (lI1 (c59 na) (b3n na), .index 1980 (b3n na)), (lI2 (c59 nb) (b3n nb), .index 1995 (b3n nb)), (lL1 yr, .lett a5r (aL1 yr)), (lL2 (c59 np) (b3n np), .lett a9c (aL2 (b3n np))),
    (lG1 g1a g1i g1m, .grant 1 (f1c g1a g1i) (f0u g1m)), (lG2 g2i (c59 nd) (b3n nd), .grant 2 (d59 g2i) (f1u (b3n nd)))] ++
  ((if c3 then [(lG3, .grant 3 e8v f0e)] else []) ++ q4 g4i g4m g5i nr c4 c5)
structure Q4OK (g4i g4m g5i nr : Nat) : Prop where
  h1 : g4i <= 100000
  h2 : g4m <= 100000
  h3 : g5i <= 100000
  h4 : nr < 700
structure Q3OK (na nb np g1a g1i g1m g2i nd : Nat) : Prop where
  h1 : 1 <= na
  h2 : na < 700
  h3 : 1 <= nb
  h4 : nb < 700
  h5 : np < 700
  h6 : nd < 700
  h7 : g1a <= 100000
  h8 : g1i <= 100000
  h9 : g1m <= 100000
  h10 : g2i <= 100000
section
variable {n : List Int} {k : Int} {pre r : ByteArray}
theorem d83 (hr : joinC a0v (n, k, pre) = some r) : ∃ c5, bl r = bl pre ++ (T (q5 c5) ++ bl a9x) := by
  unfold joinC a0v at hr
  dsimp only at hr
  obtain ⟨v105, h105, hr⟩ := Option.bind_eq_some_iff.1 hr
  obtain ⟨v106, h106, hr⟩ := Option.bind_eq_some_iff.1 hr
  have b106 := a3y h106 (by decide) (by decide)
  obtain ⟨v106, rfl⟩ := Int.eq_ofNat_of_zero_le b106.1
  split at hr
  . refine ⟨true, ?_⟩
    obtain ⟨v107, h107, hr⟩ := Option.bind_eq_some_iff.1 hr
    have t107 := u7 h107
    obtain ⟨v108, h108, hr⟩ := Option.bind_eq_some_iff.1 hr
    have t108 := u7 h108
    have hr := Option.some.inj hr
    subst hr
    have e5 : T (q5 true) = bl b50 := by
      unfold q5
      rw [if_pos rfl, c1b, c9w, List.append_nil]
      exact tR2
    rw [t108, t107, List.append_assoc, e5]
  . refine ⟨false, ?_⟩
    obtain ⟨v109, h109, hr⟩ := Option.bind_eq_some_iff.1 hr
    have t109 := u7 h109
    have hr := Option.some.inj hr
    subst hr
    rw [t109]
    rfl
theorem d9q (hr : joinC a0z (n, k, pre) = some r) : ∃ g4i g4m g5i nr c4 c5, Q4OK g4i g4m g5i nr /\ bl r = bl pre ++ (T (q4 g4i g4m g5i nr c4 c5) ++ bl a9x) := by
  unfold joinC a0z at hr
  dsimp only at hr
  obtain ⟨v79, h79, hr⟩ := Option.bind_eq_some_iff.1 hr
  obtain ⟨v80, h80, hr⟩ := Option.bind_eq_some_iff.1 hr
  have b80 := a3y h80 (by decide) (by decide)
  obtain ⟨v80, rfl⟩ := Int.eq_ofNat_of_zero_le b80.1
  obtain ⟨v81, h81, hr⟩ := Option.bind_eq_some_iff.1 hr
  have t81 := c3f h81 (n := v80) rfl (by omega)
  obtain ⟨v82, h82, hr⟩ := Option.bind_eq_some_iff.1 hr
  have t82 := u7 h82
  obtain ⟨v83, h83, hr⟩ := Option.bind_eq_some_iff.1 hr
  have t83 := u7 h83
  obtain ⟨v84, h84, hr⟩ := Option.bind_eq_some_iff.1 hr
  obtain ⟨v85, h85, hr⟩ := Option.bind_eq_some_iff.1 hr
  have b85 := a3y h85 (by decide) (by decide)
  obtain ⟨v85, rfl⟩ := Int.eq_ofNat_of_zero_le b85.1
  obtain ⟨v86, h86, hr⟩ := Option.bind_eq_some_iff.1 hr
  have t86 := c3f h86 (n := 10 + v85) (by rw [i8 (by omega) (by omega)]; omega) (by omega)
  obtain ⟨v87, h87, hr⟩ := Option.bind_eq_some_iff.1 hr
  have t87 := u7 h87
  obtain ⟨v88, h88, hr⟩ := Option.bind_eq_some_iff.1 hr
  have t88 := u7 h88
  obtain ⟨v89, h89, hr⟩ := Option.bind_eq_some_iff.1 hr
  have t89 := u7 h89
  obtain ⟨v90, h90, hr⟩ := Option.bind_eq_some_iff.1 hr
  obtain ⟨v91, h91, hr⟩ := Option.bind_eq_some_iff.1 hr
  have b91 := a3y h91 (by decide) (by decide)
  obtain ⟨v91, rfl⟩ := Int.eq_ofNat_of_zero_le b91.1
  obtain ⟨v92, h92, hr⟩ := Option.bind_eq_some_iff.1 hr
  have t92 := c3f h92 (n := v91) rfl (by omega)
  obtain ⟨v93, h93, hr⟩ := Option.bind_eq_some_iff.1 hr
  have t93 := u7 h93
  obtain ⟨v94, h94, hr⟩ := Option.bind_eq_some_iff.1 hr
  have t94 := u7 h94
  obtain ⟨v95, h95, hr⟩ := Option.bind_eq_some_iff.1 hr
  have t95 := u7 h95
  obtain ⟨v96, h96, hr⟩ := Option.bind_eq_some_iff.1 hr
  obtain ⟨v97, h97, hr⟩ := Option.bind_eq_some_iff.1 hr
  have b97 := a3y h97 (by decide) (by decide)
  obtain ⟨v97, rfl⟩ := Int.eq_ofNat_of_zero_le b97.1
  split at hr
  . have hr0 := hr
    obtain ⟨v98, h98, hr⟩ := Option.bind_eq_some_iff.1 hr
    obtain ⟨v99, h99, hr⟩ := Option.bind_eq_some_iff.1 hr
    have b99 := a3y h99 (by decide) (by decide)
    obtain ⟨v99, rfl⟩ := Int.eq_ofNat_of_zero_le b99.1
    obtain ⟨v100, h100, hr⟩ := Option.bind_eq_some_iff.1 hr
    have t100 := e17 h100 (n := 10 * v99) (by rw [i8 (by omega) (by omega)]; omega) (by omega)
    obtain ⟨v101, h101, hr⟩ := Option.bind_eq_some_iff.1 hr
    have t101 := u7 h101
    obtain ⟨v102, h102, hr⟩ := Option.bind_eq_some_iff.1 hr
    have t102 := u7 h102
    obtain ⟨v103, h103, hr⟩ := Option.bind_eq_some_iff.1 hr
    have t103 := u7 h103
    obtain ⟨c5, e⟩ := d83 hr
    refine ⟨v80, 10 + v85, v91, 10 * v99, true, c5, ⟨by omega, by omega, by omega, by omega⟩, ?_⟩
    rw [e, t103, t102, t101, t100, t95, t94, t93, t92, t89, t88, t87, t86, t83, t82, t81]
    simp only [q4, if_true, b4u, c1b, c9w, tG4, tG5, tR1, List.append_assoc, List.append_nil, List.nil_append]
  . obtain ⟨c5, e⟩ := d83 hr
    refine ⟨v80, 10 + v85, v91, 0, false, c5, ⟨by omega, by omega, by omega, by omega⟩, ?_⟩
    rw [e, t95, t94, t93, t92, t89, t88, t87, t86, t83, t82, t81]
    simp only [q4, Bool.false_eq_true, if_false, b4u, c1b, c9w, tG4, tG5, List.append_assoc, List.append_nil, List.nil_append]
theorem d8m {yt : ByteArray} {yr : Nat} (hy : bl yt = a7f 20 yr) (hr : joinC a0x (n, k, yt, pre) = some r) : ∃ na nb np g1a g1i g1m g2i nd g4i g4m g5i nr c3 c4 c5, Q3OK na nb np g1a g1i g1m g2i nd /\ Q4OK g4i g4m g5i nr /\ bl r = bl pre ++ (T (q3 na nb np yr g1a g1i g1m g2i nd g4i g4m g5i nr c3 c4 c5) ++ bl a9x) := by
  unfold joinC a0x at hr
  dsimp only at hr
  obtain ⟨v29, h29, hr⟩ := Option.bind_eq_some_iff.1 hr
  obtain ⟨v30, h30, hr⟩ := Option.bind_eq_some_iff.1 hr
  have b30 := a3y h30 (by decide) (by decide)
  obtain ⟨v30, rfl⟩ := Int.eq_ofNat_of_zero_le b30.1
  obtain ⟨v31, h31, hr⟩ := Option.bind_eq_some_iff.1 hr
  have t31 := e17 h31 (n := 100 + v30) (by rw [i8 (by omega) (by omega)]; omega) (by omega)
  obtain ⟨v32, h32, hr⟩ := Option.bind_eq_some_iff.1 hr
  have t32 := u7 h32
  obtain ⟨v33, h33, hr⟩ := Option.bind_eq_some_iff.1 hr
  have t33 := u7 h33
  obtain ⟨v34, h34, hr⟩ := Option.bind_eq_some_iff.1 hr
  obtain ⟨v35, h35, hr⟩ := Option.bind_eq_some_iff.1 hr
  have b35 := a3y h35 (by decide) (by decide)
  obtain ⟨v35, rfl⟩ := Int.eq_ofNat_of_zero_le b35.1
  obtain ⟨v36, h36, hr⟩ := Option.bind_eq_some_iff.1 hr
  have t36 := e17 h36 (n := 400 + v35) (by rw [i8 (by omega) (by omega)]; omega) (by omega)
  obtain ⟨v37, h37, hr⟩ := Option.bind_eq_some_iff.1 hr
  have t37 := u7 h37
  obtain ⟨v38, h38, hr⟩ := Option.bind_eq_some_iff.1 hr
  have t38 := u7 h38
  obtain ⟨v39, h39, hr⟩ := Option.bind_eq_some_iff.1 hr
  have t39 := u7 h39
  obtain ⟨v40, h40, hr⟩ := Option.bind_eq_some_iff.1 hr
  have t40 := u7 h40
  obtain ⟨v41, h41, hr⟩ := Option.bind_eq_some_iff.1 hr
  have t41 := u7 h41
  obtain ⟨v42, h42, hr⟩ := Option.bind_eq_some_iff.1 hr
  obtain ⟨v43, h43, hr⟩ := Option.bind_eq_some_iff.1 hr
  have b43 := a3y h43 (by decide) (by decide)
  obtain ⟨v43, rfl⟩ := Int.eq_ofNat_of_zero_le b43.1
  obtain ⟨v44, h44, hr⟩ := Option.bind_eq_some_iff.1 hr
  have t44 := e17 h44 (n := 1 + v43) (by rw [i8 (by omega) (by omega)]; omega) (by omega)
  obtain ⟨v45, h45, hr⟩ := Option.bind_eq_some_iff.1 hr
  have t45 := u7 h45
  obtain ⟨v46, h46, hr⟩ := Option.bind_eq_some_iff.1 hr
  have t46 := u7 h46
  obtain ⟨v47, h47, hr⟩ := Option.bind_eq_some_iff.1 hr
  have t47 := u7 h47
  obtain ⟨v48, h48, hr⟩ := Option.bind_eq_some_iff.1 hr
  obtain ⟨v49, h49, hr⟩ := Option.bind_eq_some_iff.1 hr
  have b49 := a3y h49 (by decide) (by decide)
  obtain ⟨v49, rfl⟩ := Int.eq_ofNat_of_zero_le b49.1
  obtain ⟨v50, h50, hr⟩ := Option.bind_eq_some_iff.1 hr
  have t50 := c3f h50 (n := 50 + v49) (by rw [i8 (by omega) (by omega)]; omega) (by omega)
  obtain ⟨v51, h51, hr⟩ := Option.bind_eq_some_iff.1 hr
  have t51 := u7 h51
  obtain ⟨v52, h52, hr⟩ := Option.bind_eq_some_iff.1 hr
  have t52 := u7 h52
  obtain ⟨v53, h53, hr⟩ := Option.bind_eq_some_iff.1 hr
  obtain ⟨v54, h54, hr⟩ := Option.bind_eq_some_iff.1 hr
  have b54 := a3y h54 (by decide) (by decide)
  obtain ⟨v54, rfl⟩ := Int.eq_ofNat_of_zero_le b54.1
  obtain ⟨v55, h55, hr⟩ := Option.bind_eq_some_iff.1 hr
  have t55 := c3f h55 (n := v54) rfl (by omega)
  obtain ⟨v56, h56, hr⟩ := Option.bind_eq_some_iff.1 hr
  have t56 := u7 h56
  obtain ⟨v57, h57, hr⟩ := Option.bind_eq_some_iff.1 hr
  have t57 := u7 h57
  obtain ⟨v58, h58, hr⟩ := Option.bind_eq_some_iff.1 hr
  obtain ⟨v59, h59, hr⟩ := Option.bind_eq_some_iff.1 hr
  have b59 := a3y h59 (by decide) (by decide)
  obtain ⟨v59, rfl⟩ := Int.eq_ofNat_of_zero_le b59.1
  obtain ⟨v60, h60, hr⟩ := Option.bind_eq_some_iff.1 hr
  have t60 := c3f h60 (n := v59) rfl (by omega)
  obtain ⟨v61, h61, hr⟩ := Option.bind_eq_some_iff.1 hr
  have t61 := u7 h61
  obtain ⟨v62, h62, hr⟩ := Option.bind_eq_some_iff.1 hr
  have t62 := u7 h62
  obtain ⟨v63, h63, hr⟩ := Option.bind_eq_some_iff.1 hr
  have t63 := u7 h63
  obtain ⟨v64, h64, hr⟩ := Option.bind_eq_some_iff.1 hr
  obtain ⟨v65, h65, hr⟩ := Option.bind_eq_some_iff.1 hr
  have b65 := a3y h65 (by decide) (by decide)
  obtain ⟨v65, rfl⟩ := Int.eq_ofNat_of_zero_le b65.1
  obtain ⟨v66, h66, hr⟩ := Option.bind_eq_some_iff.1 hr
  have t66 := c3f h66 (n := v65) rfl (by omega)
  obtain ⟨v67, h67, hr⟩ := Option.bind_eq_some_iff.1 hr
  have t67 := u7 h67
  obtain ⟨v68, h68, hr⟩ := Option.bind_eq_some_iff.1 hr
  have t68 := u7 h68
  obtain ⟨v69, h69, hr⟩ := Option.bind_eq_some_iff.1 hr
  obtain ⟨v70, h70, hr⟩ := Option.bind_eq_some_iff.1 hr
  have b70 := a3y h70 (by decide) (by decide)
  obtain ⟨v70, rfl⟩ := Int.eq_ofNat_of_zero_le b70.1
  obtain ⟨v71, h71, hr⟩ := Option.bind_eq_some_iff.1 hr
  have t71 := e17 h71 (n := 20 + v70) (by rw [i8 (by omega) (by omega)]; omega) (by omega)
  obtain ⟨v72, h72, hr⟩ := Option.bind_eq_some_iff.1 hr
  have t72 := u7 h72
  obtain ⟨v73, h73, hr⟩ := Option.bind_eq_some_iff.1 hr
  have t73 := u7 h73
  obtain ⟨v74, h74, hr⟩ := Option.bind_eq_some_iff.1 hr
  have t74 := u7 h74
  obtain ⟨v75, h75, hr⟩ := Option.bind_eq_some_iff.1 hr
  obtain ⟨v76, h76, hr⟩ := Option.bind_eq_some_iff.1 hr
  have b76 := a3y h76 (by decide) (by decide)
  obtain ⟨v76, rfl⟩ := Int.eq_ofNat_of_zero_le b76.1
  have eI := tI (c59 (100 + v30)) (c59 (400 + v35)) (b3n (100 + v30)) (b3n (400 + v35))
  have eL := tL yr (c59 (1 + v43)) (b3n (1 + v43))
  split at hr
  . have hr0 := hr
    obtain ⟨v77, h77, hr⟩ := Option.bind_eq_some_iff.1 hr
    have t77 := u7 h77
    obtain ⟨g4i, g4m, g5i, nr, c4, c5, hq, e⟩ := d9q hr
    refine ⟨100 + v30, 400 + v35, 1 + v43, 50 + v49, v54, v59, v65, 20 + v70, g4i, g4m, g5i, nr, true, c4, c5, ⟨by omega, by omega, by omega, by omega, by omega, by omega, by omega, by omega, by omega, by omega⟩, hq, ?_⟩
    rw [e, t77, t74, t73, t72, t71, t68, t67, t66, t63, t62, t61, t60, t57, t56, t55, t52, t51, t50, t47, t46, t45, t44, t41, t40, t39, t38, t37, t36, t33, t32, t31, hy]
    simp only [q3, if_true, b4u, c1b, c9w, tG1, tG2, tG3, List.append_assoc, List.append_nil, List.nil_append]
    rw [<- List.append_assoc (y7 lI0), <- List.append_assoc _ (y7 (lI2 _ _)), List.append_assoc (y7 lI0), eI, <- List.append_assoc (y7 (lL1 yr)), eL]
    simp only [List.append_assoc]
  . obtain ⟨g4i, g4m, g5i, nr, c4, c5, hq, e⟩ := d9q hr
    refine ⟨100 + v30, 400 + v35, 1 + v43, 50 + v49, v54, v59, v65, 20 + v70, g4i, g4m, g5i, nr, false, c4, c5, ⟨by omega, by omega, by omega, by omega, by omega, by omega, by omega, by omega, by omega, by omega⟩, hq, ?_⟩
    rw [e, t74, t73, t72, t71, t68, t67, t66, t63, t62, t61, t60, t57, t56, t55, t52, t51, t50, t47, t46, t45, t44, t41, t40, t39, t38, t37, t36, t33, t32, t31, hy]
    simp only [q3, Bool.false_eq_true, if_false, b4u, c1b, c9w, tG1, tG2, List.append_assoc, List.append_nil, List.nil_append]
    rw [<- List.append_assoc (y7 lI0), <- List.append_assoc _ (y7 (lI2 _ _)), List.append_assoc (y7 lI0), eI, <- List.append_assoc (y7 (lL1 yr)), eL]
    simp only [List.append_assoc]
end
end Go.PL
namespace Go.PL
open Go Go.SX
def e83 (yr : Nat) (l : List (List Lx × Cl)) : Prop := ∃ na nb np g1a g1i g1m g2i nd g4i g4m g5i nr c3 c4 c5, Q3OK na nb np g1a g1i g1m g2i nd /\ Q4OK g4i g4m g5i nr /\ l = q3 na nb np yr g1a g1i g1m g2i nd g4i g4m g5i nr c3 c4 c5
def q2 (c2 : Bool) (l : List (List Lx × Cl)) : List (List Lx × Cl) := (if c2 then [(lC5, .credit 5 0)] else []) ++ l
def q1 (l7 l10 : Nat) (c1 c2 : Bool) (l : List (List Lx × Cl)) : List (List Lx × Cl) := [(lC6, .credit 6 0), (lC7 l7, .credit 7 l7)] ++ ((if c1 then [(e7x l10, .credit 10 l10)] else []) ++ q2 c2 l)
section
variable {n : List Int} {k : Int} {pre r : ByteArray}
theorem d82 {yt : ByteArray} {yr : Nat} (hy : bl yt = a7f 20 yr) (hr : joinC a0y (n, k, yt, pre) = some r) : ∃ c2 l, e83 yr l /\ bl r = bl pre ++ (T (q2 c2 l) ++ bl a9x) := by
  unfold joinC a0y at hr
  dsimp only at hr
  obtain ⟨v25, h25, hr⟩ := Option.bind_eq_some_iff.1 hr
  obtain ⟨v26, h26, hr⟩ := Option.bind_eq_some_iff.1 hr
  have b26 := a3y h26 (by decide) (by decide)
  obtain ⟨v26, rfl⟩ := Int.eq_ofNat_of_zero_le b26.1
  split at hr
  . have hr0 := hr
    obtain ⟨v27, h27, hr⟩ := Option.bind_eq_some_iff.1 hr
    have t27 := u7 h27
    obtain ⟨na, nb, np, g1a, g1i, g1m, g2i, nd, g4i, g4m, g5i, nr, c3, c4, c5, h3, h4, e⟩ := d8m hy hr
    refine ⟨true, _, ⟨na, nb, np, g1a, g1i, g1m, g2i, nd, g4i, g4m, g5i, nr, c3, c4, c5, h3, h4, rfl⟩, ?_⟩
    rw [e, t27]
    simp only [q2, if_true, b4u, c1b, c9w, tC5, List.append_assoc, List.append_nil, List.nil_append]
  . obtain ⟨na, nb, np, g1a, g1i, g1m, g2i, nd, g4i, g4m, g5i, nr, c3, c4, c5, h3, h4, e⟩ := d8m hy hr
    refine ⟨false, _, ⟨na, nb, np, g1a, g1i, g1m, g2i, nd, g4i, g4m, g5i, nr, c3, c4, c5, h3, h4, rfl⟩, ?_⟩
    rw [e]
    rfl
theorem c6t {yt : ByteArray} {yr : Nat} (hy : bl yt = a7f 20 yr) (hr : joinC y5 (n, k, yt, pre) = some r) : ∃ l7 l10 c1 c2 l, (1 <= l7 /\ l7 <= 73049 /\ 1 <= l10 /\ l10 <= 73049) /\ e83 yr l /\ bl r = bl pre ++ (T (q1 l7 l10 c1 c2 l) ++ bl a9x) := by
  unfold joinC y5 at hr
  dsimp only at hr
  obtain ⟨v10, h10, hr⟩ := Option.bind_eq_some_iff.1 hr
  obtain ⟨v11, h11, hr⟩ := Option.bind_eq_some_iff.1 hr
  have b11 := a3y h11 (by decide) (by decide)
  obtain ⟨v11, rfl⟩ := Int.eq_ofNat_of_zero_le b11.1
  obtain ⟨v12, h12, hr⟩ := Option.bind_eq_some_iff.1 hr
  have t12 := c3f h12 (n := 1 + v11) (by rw [i8 (by omega) (by omega)]; omega) (by omega)
  obtain ⟨v13, h13, hr⟩ := Option.bind_eq_some_iff.1 hr
  have t13 := u7 h13
  obtain ⟨v14, h14, hr⟩ := Option.bind_eq_some_iff.1 hr
  have t14 := u7 h14
  obtain ⟨v15, h15, hr⟩ := Option.bind_eq_some_iff.1 hr
  have t15 := u7 h15
  obtain ⟨v16, h16, hr⟩ := Option.bind_eq_some_iff.1 hr
  obtain ⟨v17, h17, hr⟩ := Option.bind_eq_some_iff.1 hr
  have b17 := a3y h17 (by decide) (by decide)
  obtain ⟨v17, rfl⟩ := Int.eq_ofNat_of_zero_le b17.1
  have eC := tC67 (1 + v11)
  split at hr
  . have hr0 := hr
    obtain ⟨v18, h18, hr⟩ := Option.bind_eq_some_iff.1 hr
    obtain ⟨v19, h19, hr⟩ := Option.bind_eq_some_iff.1 hr
    have b19 := a3y h19 (by decide) (by decide)
    obtain ⟨v19, rfl⟩ := Int.eq_ofNat_of_zero_le b19.1
    obtain ⟨v20, h20, hr⟩ := Option.bind_eq_some_iff.1 hr
    have t20 := c3f h20 (n := 100 + v19) (by rw [i8 (by omega) (by omega)]; omega) (by omega)
    obtain ⟨v21, h21, hr⟩ := Option.bind_eq_some_iff.1 hr
    have t21 := u7 h21
    obtain ⟨v22, h22, hr⟩ := Option.bind_eq_some_iff.1 hr
    have t22 := u7 h22
    obtain ⟨v23, h23, hr⟩ := Option.bind_eq_some_iff.1 hr
    have t23 := u7 h23
    obtain ⟨c2, l, hl, e⟩ := d82 hy hr
    refine ⟨1 + v11, 100 + v19, true, c2, l, ⟨by omega, by omega, by omega, by omega⟩, hl, ?_⟩
    rw [e, t23, t22, t21, t20, t15, t14, t13, t12]
    simp only [q1, if_true, b4u, c1b, c9w, tC10, List.append_assoc, List.append_nil, List.nil_append]
    rw [<- List.append_assoc (y7 lC6), eC]
    simp only [List.append_assoc]
  . obtain ⟨c2, l, hl, e⟩ := d82 hy hr
    refine ⟨1 + v11, 1, false, c2, l, ⟨by omega, by omega, by omega, by omega⟩, hl, ?_⟩
    rw [e, t15, t14, t13, t12]
    simp only [q1, Bool.false_eq_true, if_false, b4u, c1b, c9w, List.append_assoc, List.append_nil, List.nil_append]
    rw [<- List.append_assoc (y7 lC6), eC]
    simp only [List.append_assoc]
theorem f7s (P : Ps) : y7 (d4h P) = bl b2s ++ (P.date ++ (bl a8i ++ (bl P.mx ++ (32 :: (a7f 20 P.u ++ bl a3c))))) := by
  simp only [y7, d4h, W, Sg, Wn, Sh, num, N, blk, cond_true, cond_false, List.append_assoc, List.nil_append]; rfl
structure MdOK (m : Int) (mx : ByteArray) (u : Nat) : Prop where
  mw : d0v mx = true
  mo : ofW mx 3 = some m
  m0 : 1 <= m
  m1 : m <= 4
  mS : nz (a13 d3x m) = true
  u0 : 1 <= u
  u1 : u <= 100000
theorem d3s {day : Int} {date : List UInt8} {m : Int} {mx : ByteArray} {u yr l7 l10 : Nat} {c1 c2 : Bool} {l : List (List Lx × Cl)} (hdt : c7l (64 :: date) day = true) (hd0 : 0 <= day) (hd1 : day <= 73048) (hm : MdOK m mx u) (hyr : yr <= 100000)
    (hc : 1 <= l7 /\ l7 <= 73049 /\ 1 <= l10 /\ l10 <= 73049) (hl : e83 yr l) : ∃ P : Ps, PsOK P /\ P.day = day /\ y7 (lxV P) = bl b2s ++ (date ++ (bl a8i ++ (bl mx ++ (32 :: (a7f 20 u ++ bl a3c))))) ++ (T (q1 l7 l10 c1 c2 l) ++ bl a9x) := by
  obtain ⟨na, nb, np, g1a, g1i, g1m, g2i, nd, g4i, g4m, g5i, nr, c3, c4, c5, h3, h4, rfl⟩ := hl
  refine ⟨⟨day, date, m, mx, u, l7, l10, c1, c2, c3, c4, c5, na, nb, np, yr, g1a, g1i, g1m, g2i, nd, g4i, g4m, g5i, nr⟩, ⟨hdt, hd0, hd1, hm.mw, hm.mo, hm.m0, hm.m1, hm.mS, hm.u0, hm.u1, hc.1, hc.2.1, hc.2.2.1, hc.2.2.2, h3.h1, h3.h2, h3.h3, h3.h4, h3.h5, h3.h6, h4.h4, hyr, h3.h7, h3.h8, h3.h9, h3.h10, h4.h1, h4.h2, h4.h3⟩, rfl, ?_⟩
  unfold lxV
  rw [a3j, a3j, f7s, tEnd]
  rfl
theorem c6x {a : ByteArray} {day : Int} (hdt : c7l (64 :: bl a) day = true) (hd0 : 0 <= day) (hd1 : day <= 73048) (hr : a0i a n k = some r) : ∃ P : Ps, PsOK P /\ P.day = day /\ bl r = y7 (lxV P) := by
  unfold a0i at hr
  obtain ⟨v1, h1, hr⟩ := Option.bind_eq_some_iff.1 hr
  obtain ⟨v2, h2, hr⟩ := Option.bind_eq_some_iff.1 hr
  have b2 := a3y h2 (by decide) (by decide)
  obtain ⟨v2, rfl⟩ := Int.eq_ofNat_of_zero_le b2.1
  obtain ⟨v3, h3, hr⟩ := Option.bind_eq_some_iff.1 hr
  have t3 := c3f h3 (n := 300 + v2) (by rw [i8 (by omega) (by omega)]; omega) (by omega)
  obtain ⟨v4, h4, hr⟩ := Option.bind_eq_some_iff.1 hr
  have t4 := u7 h4
  obtain ⟨v5, h5, hr⟩ := Option.bind_eq_some_iff.1 hr
  have t5 := u7 h5
  obtain ⟨v6, h6, hr⟩ := Option.bind_eq_some_iff.1 hr
  obtain ⟨v7, h7, hr⟩ := Option.bind_eq_some_iff.1 hr
  have b7 := a3y h7 (by decide) (by decide)
  obtain ⟨v7, rfl⟩ := Int.eq_ofNat_of_zero_le b7.1
  split at hr
  . have hr0 := hr
    obtain ⟨v8, h8, hr⟩ := Option.bind_eq_some_iff.1 hr
    have t8 := u7 h8
    obtain ⟨l7, l10, c1, c2, l, hc, hl, e⟩ := c6t t3 hr
    obtain ⟨P, hP, hd, ht⟩ := d3s (c1 := c1) (c2 := c2) hdt hd0 hd1 (m := 1) (mx := b9i) (u := 1) ⟨by kernel_rfl, by kernel_rfl, by decide, by decide, by kernel_rfl, by decide, by decide⟩ (by omega) hc hl
    refine ⟨P, hP, hd, ?_⟩
    rw [ht, e, t8, t5, t4, show bl b3e = bl b9i ++ (32 :: (a7f 20 1 ++ bl a3c)) from by kernel_rfl]
    simp only [List.append_assoc]
  split at hr
  . have hr0 := hr
    obtain ⟨v110, h110, hr⟩ := Option.bind_eq_some_iff.1 hr
    have t110 := u7 h110
    obtain ⟨l7, l10, c1, c2, l, hc, hl, e⟩ := c6t t3 hr
    obtain ⟨P, hP, hd, ht⟩ := d3s (c1 := c1) (c2 := c2) hdt hd0 hd1 (m := 3) (mx := b8n) (u := 5) ⟨by kernel_rfl, by kernel_rfl, by decide, by decide, by kernel_rfl, by decide, by decide⟩ (by omega) hc hl
    refine ⟨P, hP, hd, ?_⟩
    rw [ht, e, t110, t5, t4, show bl b3d = bl b8n ++ (32 :: (a7f 20 5 ++ bl a3c)) from by kernel_rfl]
    simp only [List.append_assoc]
  split at hr
  . have hr0 := hr
    obtain ⟨v111, h111, hr⟩ := Option.bind_eq_some_iff.1 hr
    have t111 := u7 h111
    obtain ⟨l7, l10, c1, c2, l, hc, hl, e⟩ := c6t t3 hr
    obtain ⟨P, hP, hd, ht⟩ := d3s (c1 := c1) (c2 := c2) hdt hd0 hd1 (m := 2) (mx := c8g) (u := 1) ⟨by kernel_rfl, by kernel_rfl, by decide, by decide, by kernel_rfl, by decide, by decide⟩ (by omega) hc hl
    refine ⟨P, hP, hd, ?_⟩
    rw [ht, e, t111, t5, t4, show bl b60 = bl c8g ++ (32 :: (a7f 20 1 ++ bl a3c)) from by kernel_rfl]
    simp only [List.append_assoc]
  obtain ⟨v112, h112, hr⟩ := Option.bind_eq_some_iff.1 hr
  have t112 := u7 h112
  obtain ⟨l7, l10, c1, c2, l, hc, hl, e⟩ := c6t t3 hr
  obtain ⟨P, hP, hd, ht⟩ := d3s (c1 := c1) (c2 := c2) hdt hd0 hd1 (m := 4) (mx := b8r) (u := 10) ⟨by kernel_rfl, by kernel_rfl, by decide, by decide, by kernel_rfl, by decide, by decide⟩ (by omega) hc hl
  refine ⟨P, hP, hd, ?_⟩
  rw [ht, e, t112, t5, t4, show bl b1x = bl b8r ++ (32 :: (a7f 20 10 ++ bl a3c)) from by kernel_rfl]
  simp only [List.append_assoc]
end
end Go.PL
namespace Go.PL
open Go Go.SX
theorem e0b : ∀ (ls : List Lx) (rest : List UInt8), okA ls rest -> ls.length <= (y7 ls).length
  | [], _, _ => Nat.le_refl _
  | ⟨t, w, sp⟩ :: ls, rest, h => by
    have h2 := e0b ls rest h.2
    have h1 : 1 <= w.length := by
      have h1 : LxOK t w (blk sp ++ (y7 ls ++ rest)) := h.1
      cases h1 <;> simp
    show ls.length + 1 <= (w ++ (blk sp ++ y7 ls)).length
    rw [List.length_append, List.length_append]
    omega
def c62 (o : Option Ps) : List Lx := match o with | some P => lxV P | none => []
def c1t (o : Option Ps) : List Version := match o with | some P => [P.ver] | none => []
def c68 (o : Option Ps) (day : Int) : Prop := match o with | some P => PsOK P /\ P.day = day | none => True
def lxS (nm : ByteArray) (cur : Nat) (P : Ps) (o1 o2 : Option Ps) : List Lx := [W a33, W nm, W a23, num cur [] 2 true, Sg b2b] ++ (lxV P ++ (c62 o1 ++ (c62 o2 ++ [Sh a2i])))
def stS (nm : ByteArray) (cur : Nat) (P : Ps) (o1 o2 : Option Ps) : Statute := ⟨nm, cur, P.ver :: (c1t o1 ++ c1t o2)⟩
theorem d3e {o : Option Ps} {day : Int} (h : c68 o day) (rest : List UInt8) : okA (c62 o) rest := by
  cases o with
  | none => trivial
  | some P => exact d7n h.1 rest
theorem d3p {o : Option Ps} {day : Int} (h : c68 o day) {ts : List Tk} {vs : List Version} (hv : VersR ts vs) : VersR (tk (c62 o) ts) (c1t o ++ vs) := by
  cases o with
  | none => exact hv
  | some P => exact VersR.cons (f3c h.1 ts) hv
theorem c5q (P : Ps) : P.ver.From = P.day := by rw [e7m]
theorem e5r {nm : ByteArray} (hn : (AE.nm nm).ok) {cur : Nat} (h0 : 1 <= cur) (h1 : cur <= 999) {P : Ps} {o1 o2 : Option Ps} (hP : PsOK P) (hd : P.day = 0) (hq1 : c68 o1 35245) (hq2 : c68 o2 36890) : SOK (stS nm cur P o1 o2) := by
  have l1 : ∀ o : Option Ps, (c1t o).length <= 1 := fun o => by cases o <;> simp [c1t]
  have a1 := l1 o1
  have a2 := l1 o2
  have hv := d91 hP
  refine ⟨hn.leaf.1, hn.leaf.2, by show (1 : Int) <= (cur : Int); omega, by show (cur : Int) <= 999; omega, ?_, ?_, ?_, ?_⟩
  . show 1 <= (P.ver :: (c1t o1 ++ c1t o2)).length
    simp
  . show (P.ver :: (c1t o1 ++ c1t o2)).length <= 6
    simp only [List.length_cons, List.length_append]; omega
  . intro v hv2
    refine ⟨c9q, ?_⟩
    have hv2 : v ∈ P.ver :: (c1t o1 ++ c1t o2) := hv2
    rcases List.mem_cons.1 hv2 with rfl | hv2
    . exact hv
    rcases List.mem_append.1 hv2 with hv2 | hv2
    . cases o1 with
      | none => cases hv2
      | some Q => rw [show c1t (some Q) = [Q.ver] from rfl, List.mem_singleton] at hv2; subst hv2; exact d91 hq1.1
    . cases o2 with
      | none => cases hv2
      | some Q => rw [show c1t (some Q) = [Q.ver] from rfl, List.mem_singleton] at hv2; subst hv2; exact d91 hq2.1
  . show (P.ver :: (c1t o1 ++ c1t o2)).Pairwise _
    cases o1 with
    | none =>
      cases o2 with
      | none => simp [c1t]
      | some R => have := hq2.2; simp [c1t, c5q]; omega
    | some Q =>
      have h3 := hq1.2
      cases o2 with
      | none => simp [c1t, c5q]; omega
      | some R => have h4 := hq2.2; simp [c1t, c5q]; omega
theorem e38 {nm : ByteArray} (hw : d0v nm = true) (hn : (AE.nm nm).ok) {cur : Nat} (h0 : 1 <= cur) (h1 : cur <= 999) {P : Ps} {o1 o2 : Option Ps} (hP : PsOK P) (hd : P.day = 0) (hq1 : c68 o1 35245) (hq2 : c68 o2 36890)
    {s : ByteArray} (hs : s.size <= 8000) (ht : bl s = y7 (lxS nm cur P o1 o2)) : a2d s = some (stS nm cur P o1 o2, 0, 0) := by
  have hA : okA (lxS nm cur P o1 o2) [] := by
    have hk : c0l [W a33, W nm, W a23, num cur [] 2 true, Sg b2b] = true := by
      simp only [c0l, W, Sg, num, N, BEq.rfl, nx, hw, Bool.true_and, Bool.and_true, Bool.true_or]
      kernel_rfl
    have hnn : c89 [W a33, W nm, W a23, num cur [] 2 true, Sg b2b] := ⟨trivial, trivial, trivial, .whole (by omega) (.inl ⟨rfl, rfl⟩), trivial, trivial⟩
    refine a80 _ _ _ (c0h _ hk hnn _) ?_
    . exact a80 _ _ _ (d7n hP _) (a80 _ _ _ (d3e hq1 _) (a80 _ _ _ (d3e hq2 _) (c0h [Sh a2i] (by kernel_rfl) ⟨trivial, trivial⟩ _)))
  have hlen := e0b _ _ hA
  have hsz : s.size = (y7 (lxS nm cur P o1 o2)).length := by rw [b9t, <- ht]; rfl
  obtain ⟨toks, hall, hrel, htl⟩ := d8w hs (lxS nm cur P o1 o2) ht (e5p _ hA) (by omega)
  have hv : VersR (tk (lxV P) (tk (c62 o1) (tk (c62 o2) [.s a2i]))) (P.ver :: (c1t o1 ++ c1t o2)) := by
    have h2 : VersR (tk (c62 o2) [.s a2i]) (c1t o2 ++ []) := d3p hq2 VersR.nil
    rw [List.append_nil] at h2
    exact VersR.cons (f3c hP _) (d3p hq1 h2)
  have e : (lxS nm cur P o1 o2).map (·.t) = .w a33 :: .w nm :: .w a23 :: .n ⟨(cur : Int), 1⟩ 2 :: .s b2b :: tk (lxV P) (tk (c62 o1) (tk (c62 o2) [.s a2i])) := by
    unfold lxS tk
    simp only [List.map_append, List.map_cons, List.map_nil, List.cons_append, List.nil_append, W, Sg, Sh, num, N]
  rw [e] at hrel
  have hl1 : ∀ o : Option Ps, (c1t o).length <= 1 := fun o => by cases o <;> simp [c1t]
  have a1 := hl1 o1
  have a2 := hl1 o2
  have hnm : e6h nm = true := by unfold e6h; rw [hn.leaf.1]
  exact e2t hall htl hrel hnm (by omega) (by omega) hv (by simp) (by simp only [List.length_cons, List.length_append]; omega) (e96 (e5r hn h0 h1 hP hd hq1 hq2))
theorem tSt (nm : ByteArray) (cur : Nat) (P : Ps) (o1 o2 : Option Ps) : y7 (lxS nm cur P o1 o2) = bl b33 ++ (bl nm ++ (bl a9w ++ (a7f 20 cur ++ (bl b9y ++ (y7 (lxV P) ++ (y7 (c62 o1) ++ (y7 (c62 o2) ++ bl a2i))))))) := by
  unfold lxS
  rw [a3j, a3j, a3j, a3j]
  simp only [y7, W, Sg, Wn, Sh, num, N, blk, cond_true, cond_false, List.append_assoc, List.nil_append]; rfl
theorem f6x : c7l (64 :: bl a68) 0 = true := by kernel_rfl
theorem f84 : c7l (64 :: bl a67) 35245 = true := by kernel_rfl
theorem f7a : c7l (64 :: bl a62) 36890 = true := by kernel_rfl
theorem c7b (s : ByteArray) : s.size = (bl s).length := b9t s
theorem c8e (P : Ps) : y7 (c62 (some P)) = y7 (lxV P) := rfl
theorem b8m : y7 (c62 none) = [] := rfl
section
variable {n : List Int} {pre r : ByteArray}
theorem e1a {k : Int} (hl : n.length <= 9223372036854775807) (hr : joinC a2a (k, n, pre) = some r) : ∃ o2, c68 o2 36890 /\ bl r = bl pre ++ (y7 (c62 o2) ++ bl a2i) /\ (y7 (c62 o2)).length <= 2500 := by
  unfold joinC a2a at hr
  dsimp only at hr
  obtain ⟨v15, h15, hr⟩ := Option.bind_eq_some_iff.1 hr
  obtain ⟨v16, h16, hr⟩ := Option.bind_eq_some_iff.1 hr
  have b16 := a3y h16 (by decide) (by decide)
  obtain ⟨v16, rfl⟩ := Int.eq_ofNat_of_zero_le b16.1
  split at hr
  . have hr0 := hr
    obtain ⟨v17, h17, hr⟩ := Option.bind_eq_some_iff.1 hr
    obtain ⟨v18, h18, hr⟩ := Option.bind_eq_some_iff.1 hr
    have t18 := u7 h18
    obtain ⟨v19, h19, hr⟩ := Option.bind_eq_some_iff.1 hr
    have t19 := u7 h19
    have hr := Option.some.inj hr
    subst hr
    obtain ⟨P, hP, hd, ht⟩ := c6x f7a (by decide) (by decide) h17
    have hsz := a0q a62 n (i64 ((i64 (7 * k)) + 5)) hl (by decide)
    obtain ⟨z, hz, hz2⟩ := hsz
    rw [h17] at hz
    have hz := Option.some.inj hz
    subst hz
    rw [c7b, ht] at hz2
    exact ⟨some P, ⟨hP, hd⟩, by rw [t19, t18, ht, c8e, List.append_assoc], hz2⟩
  . have hr0 := hr
    obtain ⟨v20, h20, hr⟩ := Option.bind_eq_some_iff.1 hr
    have t20 := u7 h20
    have hr := Option.some.inj hr
    subst hr
    exact ⟨none, trivial, by rw [t20, b8m]; rfl, by rw [b8m]; simp⟩
end
theorem c0k {k : Nat} (hk : k < 3) (n : List Int) (hl : n.length <= 9223372036854775807) : ∃ s x, a0m (k : Int) n = some s /\ a2d s = some (x, 0, 0) /\ SOK x := by
  obtain ⟨s, hs, _⟩ := b6x (k := (k : Int)) n hl (by omega) (by omega)
  have hr := hs
  unfold a0m at hr
  obtain ⟨nm, hnm, hr⟩ := Option.bind_eq_some_iff.1 hr
  have hN : d0v nm = true /\ (AE.nm nm).ok /\ (bl nm).length <= 5 := by
    match k, hk, hnm with
    | 0, _, hnm => have e : b4g = nm := Option.some.inj hnm; subst e; exact ⟨by kernel_rfl, c2n (by kernel_rfl), by decide⟩
    | 1, _, hnm => have e : b4n = nm := Option.some.inj hnm; subst e; exact ⟨by kernel_rfl, c2n (by kernel_rfl), by decide⟩
    | 2, _, hnm => have e : b1w = nm := Option.some.inj hnm; subst e; exact ⟨by kernel_rfl, c2n (by kernel_rfl), by decide⟩
  rw [hnm] at hr
  rw [Option.bind_some] at hr
  obtain ⟨v3, h3, hr⟩ := Option.bind_eq_some_iff.1 hr
  have t3 := u7 h3
  obtain ⟨v4, h4, hr⟩ := Option.bind_eq_some_iff.1 hr
  have t4 := u7 h4
  obtain ⟨v5, h5, hr⟩ := Option.bind_eq_some_iff.1 hr
  have t5 := c3f h5 (n := 1 + k) (by rw [i8 (by omega) (by omega)]; omega) (by omega)
  obtain ⟨v6, h6, hr⟩ := Option.bind_eq_some_iff.1 hr
  have t6 := u7 h6
  obtain ⟨v7, h7, hr⟩ := Option.bind_eq_some_iff.1 hr
  have t7 := u7 h7
  obtain ⟨v8, h8, hr⟩ := Option.bind_eq_some_iff.1 hr
  obtain ⟨v9, h9, hr⟩ := Option.bind_eq_some_iff.1 hr
  have t9 := u7 h9
  obtain ⟨v10, h10, hr⟩ := Option.bind_eq_some_iff.1 hr
  obtain ⟨v11, h11, hr⟩ := Option.bind_eq_some_iff.1 hr
  have b11 := a3y h11 (by decide) (by decide)
  obtain ⟨v11, rfl⟩ := Int.eq_ofNat_of_zero_le b11.1
  obtain ⟨P, hP, hd, ht⟩ := c6x f6x (by decide) (by decide) h8
  have hsz : (y7 (lxV P)).length <= 2500 := by
    obtain ⟨z, hz, hz2⟩ := a0q a68 n (i64 (7 * (k : Int))) hl (by decide)
    rw [h8] at hz
    have hz := Option.some.inj hz
    subst hz
    rw [c7b, ht] at hz2
    exact hz2
  have hdl := b95 20 (1 + k) 0 (by omega)
  have fin : ∀ o1 o2, c68 o1 35245 -> c68 o2 36890 -> bl s = bl v9 ++ (y7 (c62 o1) ++ (y7 (c62 o2) ++ bl a2i)) -> (y7 (c62 o1)).length <= 2500 -> (y7 (c62 o2)).length <= 2500 -> ∃ s x, a0m (k : Int) n = some s /\ a2d s = some (x, 0, 0) /\ SOK x := by
    intro o1 o2 hq1 hq2 e g1 g2
    have e2 : bl s = y7 (lxS nm (1 + k) P o1 o2) := by
      rw [tSt, e, t9, t7, t6, t5, t4, t3, ht]
      simp only [List.append_assoc]
    have hsz2 : s.size <= 8000 := by
      rw [c7b, e2, tSt]
      simp only [List.length_append]
      have q1 : (bl b33).length = 8 := by decide
      have q2 : (bl a9w).length = 10 := by decide
      have q3 : (bl b9y).length = 3 := by decide
      have q4 : (bl a2i).length = 1 := by decide
      have := hN.2.2
      omega
    exact ⟨s, _, hs, e38 hN.1 hN.2.1 (by omega) (by omega) hP hd hq1 hq2 hsz2 e2, e5r hN.2.1 (by omega) (by omega) hP hd hq1 hq2⟩
  split at hr
  . have hr0 := hr
    obtain ⟨v12, h12, hr⟩ := Option.bind_eq_some_iff.1 hr
    obtain ⟨v13, h13, hr⟩ := Option.bind_eq_some_iff.1 hr
    have t13 := u7 h13
    obtain ⟨Q, hQ, hdQ, htQ⟩ := c6x f84 (by decide) (by decide) h12
    have hszQ : (y7 (lxV Q)).length <= 2500 := by
      obtain ⟨z, hz, hz2⟩ := a0q a67 n (i64 ((i64 (7 * (k : Int))) + 3)) hl (by decide)
      rw [h12] at hz
      have hz := Option.some.inj hz
      subst hz
      rw [c7b, htQ] at hz2
      exact hz2
    obtain ⟨o2, ho2, e, hlen2⟩ := e1a hl hr
    exact fin (some Q) o2 ⟨hQ, hdQ⟩ ho2 (by rw [e, t13, htQ, c8e, List.append_assoc]) hszQ hlen2
  . obtain ⟨o2, ho2, e, hlen2⟩ := e1a hl hr
    exact fin none o2 trivial ho2 (by rw [e, b8m]; rfl) (by rw [b8m]; simp) hlen2
end Go.PL
namespace Go.PL
open Go Go.SX
def c4z : List Rate := [(⟨1, 0, (⟨1, 1⟩ : Fraction)⟩ : Rate), (⟨2, 0, (⟨3, 2⟩ : Fraction)⟩ : Rate), (⟨3, 0, (⟨1, 7⟩ : Fraction)⟩ : Rate), (⟨3, 1150, (⟨1, 9⟩ : Fraction)⟩ : Rate)]
def c1m (t : List Rules) : Prop := ∃ few : Int, 0 <= few /\ few <= 450 /\
  (t = [⟨0, few, 730, 25, [0, 1, 2]⟩] \/ t = [⟨0, few, 730, 25, [0, 1]⟩, ⟨35000, few, 365, 30, [0, 1, 2]⟩] \/ t = [⟨0, few, 730, 25, [0, 1, 2]⟩, ⟨36000, few, 730, 25, [0, 1]⟩])
structure LwOK (x : Laws) : Prop where
  st : ∃ t0 t1 t2, x.States = [⟨0, t0⟩, ⟨1, t1⟩, ⟨2, t2⟩] /\ SOK t0 /\ SOK t1 /\ SOK t2
  tr : c1m x.Treaty
  ra : x.Rates = c4z
theorem e0m : ∃ m, FU = m + 1 + 1 + 1 + 1 := ⟨FU - 4, by have := a2s; omega⟩
theorem e8d {n : List Int} (hl : n.length <= 9223372036854775807) : ∃ x, a7m n = some x /\ LwOK x := by
  obtain ⟨s0, t0, h0, p0, k0⟩ := c0k (k := 0) (by decide) n hl
  obtain ⟨s1, t1, h1, p1, k1⟩ := c0k (k := 1) (by decide) n hl
  obtain ⟨s2, t2, h2, p2, k2⟩ := c0k (k := 2) (by decide) n hl
  have h0 : a0m 0 n = some s0 := h0
  have h1 : a0m 1 n = some s1 := h1
  have h2 : a0m 2 n = some s2 := h2
  unfold a7m
  obtain ⟨m, hm⟩ := e0m
  rw [hm, j8]
  generalize hA : d9 (m + 1 + 1 + 1) (a0j n) = A
  unfold a0j
  have a0 : a8w 56 ([] : List State) [⟨0, t0⟩] = some [⟨0, t0⟩] := b13 (by simp) (by decide)
  have a1 : a8w 56 ([⟨0, t0⟩] : List State) [⟨1, t1⟩] = some [⟨0, t0⟩, ⟨1, t1⟩] := b13 (by simp) (by decide)
  have a2 : a8w 56 ([⟨0, t0⟩, ⟨1, t1⟩] : List State) [⟨2, t2⟩] = some [⟨0, t0⟩, ⟨1, t1⟩, ⟨2, t2⟩] := b13 (by simp) (by decide)
  simp only [show decide ((0 : Int) < 3) = true from rfl, if_true, h0, Option.bind_some, p0, BEq.rfl, a0, show i64 (0 + 1) = 1 from rfl]
  rw [<- hA, j8]
  generalize hB : d9 (m + 1 + 1) (a0j n) = B
  unfold a0j
  simp only [show decide ((1 : Int) < 3) = true from rfl, if_true, h1, Option.bind_some, p1, BEq.rfl, a1, show i64 (1 + 1) = 2 from rfl]
  rw [<- hB, j8]
  generalize hC : d9 (m + 1) (a0j n) = C
  unfold a0j
  simp only [show decide ((2 : Int) < 3) = true from rfl, if_true, h2, Option.bind_some, p2, BEq.rfl, a2, show i64 (2 + 1) = 3 from rfl]
  rw [<- hC, j8]
  unfold a0j
  simp only [show decide ((3 : Int) < 3) = false from rfl, Bool.false_eq_true, if_false]
  obtain ⟨v6, h6, _⟩ := a0p n 2 hl
  obtain ⟨v7, h7, b7⟩ := a0t (a := v6) (n := 6) (by decide) (by decide)
  obtain ⟨v8, h8, _⟩ := a0p n 5 hl
  obtain ⟨v9, h9, b9⟩ := a0t (a := v8) (n := 3) (by decide) (by decide)
  have e90 : i64 (90 * v7) = 90 * v7 := i8 (by omega) (by omega)
  simp only [h6, h7, h8, h9, Option.bind_some, e90]
  have fin : ∀ t : List Rules, c1m t -> ∃ x, some (⟨[⟨0, t0⟩, ⟨1, t1⟩, ⟨2, t2⟩], t, c4z⟩ : Laws) = some x /\ LwOK x := fun t ht => ⟨_, rfl, ⟨⟨t0, t1, t2, rfl, k0, k1, k2⟩, ht, rfl⟩⟩
  split
  . exact fin _ ⟨90 * v7, by omega, by omega, .inl rfl⟩
  . split
    . rw [show a8w 56 [(⟨0, 90 * v7, 730, 25, [0, 1]⟩ : Rules)] [(⟨35000, 90 * v7, 365, 30, [0, 1, 2]⟩ : Rules)] = some ([(⟨0, 90 * v7, 730, 25, [0, 1]⟩ : Rules)] ++ [(⟨35000, 90 * v7, 365, 30, [0, 1, 2]⟩ : Rules)]) from b13 (by simp) (by decide), Option.bind_some]
      exact fin _ ⟨90 * v7, by omega, by omega, .inr (.inl rfl)⟩
    . simp only [show l8 [(⟨0, 90 * v7, 730, 25, [0, 1]⟩ : Rules)] 0 = some (⟨0, 90 * v7, 730, 25, [0, 1]⟩ : Rules) from rfl, Option.bind_some]
      rw [show a8w 56 (b0x [(⟨0, 90 * v7, 730, 25, [0, 1]⟩ : Rules)] 0 (⟨0, 90 * v7, 730, 25, [0, 1, 2]⟩ : Rules)) [(⟨36000, 90 * v7, 730, 25, [0, 1]⟩ : Rules)] = some ((b0x [(⟨0, 90 * v7, 730, 25, [0, 1]⟩ : Rules)] 0 (⟨0, 90 * v7, 730, 25, [0, 1, 2]⟩ : Rules)) ++ [(⟨36000, 90 * v7, 730, 25, [0, 1]⟩ : Rules)]) from b13 (by simp [b0x]) (by decide), Option.bind_some]
      exact fin _ ⟨90 * v7, by omega, by omega, .inr (.inr rfl)⟩
theorem d7v {t : List Rules} (h : c1m t) : b0e t = some 0 := by
  obtain ⟨few, h0, h1, h⟩ := h
  have d1 : decide (few >= 0) = true := by simp; omega
  have d2 : decide (few <= 73049) = true := by simp; omega
  have val : ∀ (f p s : Int) (l : List Int), decide (f >= 0) = true -> decide (f <= 73048) = true -> decide (p >= 0) = true -> decide (p <= 73049) = true -> decide (s >= 0) = true -> decide (s <= 100) = true -> l = [0, 1] \/ l = [0, 1, 2] -> a4k ⟨f, few, p, s, l⟩ = some true := by
    intro f p s l e1 e2 e3 e4 e5 e6 hl
    unfold a4k a3h a6w
    simp only [d1, d2, e1, e2, e3, e4, e5, e6, if_true, Option.bind_some, Bool.not_true, Bool.false_eq_true, if_false]
    obtain ⟨m, hm⟩ := e0m
    have h3 : 3 < FU := by have := a2s; omega
    rcases hl with rfl | rfl
    . have := p6 (f := b1o ⟨f, few, p, s, [0, 1]⟩) (fun i => ((⟨f, few, p, s, [0, 1]⟩ : Rules), (i : Int))) 2 (x := some true) (fun i hi r => by
        match i, hi with
        | 0, _ => rfl
        | 1, _ => rfl) (fun r => rfl) (by omega : 2 < FU)
      exact this
    . have := p6 (f := b1o ⟨f, few, p, s, [0, 1, 2]⟩) (fun i => ((⟨f, few, p, s, [0, 1, 2]⟩ : Rules), (i : Int))) 3 (x := some true) (fun i hi r => by
        match i, hi with
        | 0, _ => rfl
        | 1, _ => rfl
        | 2, _ => rfl) (fun r => rfl) h3
      exact this
  have h3 : 3 < FU := by have := a2s; omega
  have v1 := val 0 730 25 [0, 1, 2] rfl rfl rfl rfl rfl rfl (.inr rfl)
  have v2 := val 0 730 25 [0, 1] rfl rfl rfl rfl rfl rfl (.inl rfl)
  have v3 := val 35000 365 30 [0, 1, 2] rfl rfl rfl rfl rfl rfl (.inr rfl)
  have v4 := val 36000 730 25 [0, 1] rfl rfl rfl rfl rfl rfl (.inl rfl)
  rcases h with rfl | rfl | rfl
  . have := p6 (f := a1l [⟨0, few, 730, 25, [0, 1, 2]⟩]) (fun i => (i : Int)) 1 (x := some 0) (fun i hi r => by
      match i, hi with
      | 0, _ =>
        unfold a1l
        show ((a4k _).bind _) = _
        rw [v1]; rfl) (fun r => rfl) (by omega : 1 < FU)
    exact this
  . have := p6 (f := a1l [⟨0, few, 730, 25, [0, 1]⟩, ⟨35000, few, 365, 30, [0, 1, 2]⟩]) (fun i => (i : Int)) 2 (x := some 0) (fun i hi r => by
      match i, hi with
      | 0, _ =>
        unfold a1l
        show ((a4k _).bind _) = _
        rw [v2]; rfl
      | 1, _ =>
        unfold a1l
        show ((a4k _).bind _) = _
        rw [v3]; rfl) (fun r => rfl) (by omega : 2 < FU)
    exact this
  . have := p6 (f := a1l [⟨0, few, 730, 25, [0, 1, 2]⟩, ⟨36000, few, 730, 25, [0, 1]⟩]) (fun i => (i : Int)) 2 (x := some 0) (fun i hi r => by
      match i, hi with
      | 0, _ =>
        unfold a1l
        show ((a4k _).bind _) = _
        rw [v1]; rfl
      | 1, _ =>
        unfold a1l
        show ((a4k _).bind _) = _
        rw [v4]; rfl) (fun r => rfl) (by omega : 2 < FU)
    exact this
theorem e4i : a7n c4z = some 0 := by kernel_rfl
theorem d4g : b0e [] = some 1 := by kernel_rfl
theorem c3w {t0 t1 t2 : Statute} (k0 : SOK t0) (k1 : SOK t1) (k2 : SOK t2) (t : List Rules) (ra : List Rate) {c : Int} (hc : ((b0e t).bind fun v12 => if (v12 != 0) then some v12 else (a7n ra).bind fun v13 => some v13) = some c) :
    a9s ⟨[⟨0, t0⟩, ⟨1, t1⟩, ⟨2, t2⟩], t, ra⟩ = some c := by
  have h3 : 3 < FU := by have := a2s; omega
  have l2 : ∀ v1 : Laws × Int, v1.1 = ⟨[⟨0, t0⟩, ⟨1, t1⟩, ⟨2, t2⟩], t, ra⟩ -> d9 FU (a7g v1) (v1.1, 0) = some c := by
    intro v1 hv
    rw [hv]
    have := p6 (f := a7g v1) (fun i => ((⟨[⟨0, t0⟩, ⟨1, t1⟩, ⟨2, t2⟩], t, ra⟩ : Laws), (i : Int))) 3 (x := some c) (fun i hi r => by
      unfold a7g
      rw [hv]
      match i, hi with
      | 0, _ => show ((a4n t0).bind _) = _; rw [c75 k0]; rfl
      | 1, _ => show ((a4n t1).bind _) = _; rw [c75 k1]; rfl
      | 2, _ => show ((a4n t2).bind _) = _; rw [c75 k2]; rfl) (fun r => by
      unfold a7g
      rw [hv]
      exact hc) h3
    exact this
  unfold a9s
  have := p6 (f := b3l ⟨[⟨0, t0⟩, ⟨1, t1⟩, ⟨2, t2⟩], t, ra⟩) (fun i => ((⟨[⟨0, t0⟩, ⟨1, t1⟩, ⟨2, t2⟩], t, ra⟩ : Laws), (i : Int))) 3 (x := some c) (fun i hi r => by
    match i, hi with
    | 0, _ => rfl
    | 1, _ => rfl
    | 2, _ => rfl) (fun r => by
    unfold b3l
    exact l2 _ rfl) h3
  exact this
theorem c7i {x : Laws} (h : LwOK x) : a9s x = some 0 /\ a9s ⟨x.States, [], x.Rates⟩ = some 1 := by
  obtain ⟨⟨t0, t1, t2, hs, k0, k1, k2⟩, htr, hra⟩ := h
  obtain ⟨st, tr, ra⟩ := x
  have hs : st = [⟨0, t0⟩, ⟨1, t1⟩, ⟨2, t2⟩] := hs
  have htr : c1m tr := htr
  have hra : ra = c4z := hra
  subst hs; subst hra
  refine ⟨c3w k0 k1 k2 tr c4z ?_, c3w k0 k1 k2 [] c4z ?_⟩
  . rw [d7v htr, e4i]; rfl
  . rw [d4g]; rfl
end Go.PL
namespace Go.PL
open Go Go.SX
def sta (c : Claim) : Int := match a0l c with | some (m, _) => m | none => 0
theorem c7a {c : Claim} (h : b22 c) : a0l c = some (sta c, true) /\ a0u c = some (sta c, true) /\ 0 <= sta c /\ sta c <= 1300 := by
  obtain ⟨r, h1, h2, h3⟩ := b8u c
  have hs := e5t
  have hd := h.2
  rcases h3 with ⟨_, h3 | h3⟩ | ⟨m, hm, rfl, _, _, _, h4⟩
  . omega
  . omega
  . have e : sta c = (m : Int) := by unfold sta; rw [h1]
    rw [e]
    refine ⟨h1, h2, by omega, ?_⟩
    rcases h4 with rfl | h4
    . decide
    . have := f5q (show 0 <= m - 1 by omega)
      have e0 : S 0 = 0 := rfl
      omega
def d16 (s : Int × Bool) (c : Claim) : Int × Bool := if c.Person = 1 /\ (s.2 = false \/ sta c < s.1) then (sta c, true) else s
def e14 (l : List Claim) : Int × Bool := l.foldl d16 (0, false)
def f0g (l : List Claim) (s : Int × Bool) : Prop := (s.2 = true ↔ ∃ c ∈ l, c.Person = 1) /\ (s.2 = true -> (∃ c ∈ l, c.Person = 1 /\ sta c = s.1) /\ ∀ c ∈ l, c.Person = 1 -> s.1 <= sta c)
theorem e2h {l : List Claim} {s : Int × Bool} (h : f0g l s) (c : Claim) : f0g (l ++ [c]) (d16 s c) := by
  obtain ⟨h1, h2⟩ := h
  unfold d16
  by_cases hp : c.Person = 1
  . by_cases hc : s.2 = false \/ sta c < s.1
    . rw [if_pos ⟨hp, hc⟩]
      refine ⟨⟨fun _ => ⟨c, by simp, hp⟩, fun _ => rfl⟩, fun _ => ⟨⟨c, by simp, hp, rfl⟩, fun d hd hdp => ?_⟩⟩
      show sta c <= sta d
      rcases List.mem_append.1 hd with hd | hd
      . have hs : s.2 = true := h1.2 ⟨d, hd, hdp⟩
        have := (h2 hs).2 d hd hdp
        rcases hc with hc | hc
        . rw [hs] at hc; cases hc
        . omega
      . rw [List.mem_singleton] at hd; subst hd; exact Int.le_refl _
    . rw [if_neg (fun h => hc h.2)]
      have hs : s.2 = true := by
        cases hb : s.2 with
        | true => rfl
        | false => exact absurd (.inl hb) hc
      have hge : s.1 <= sta c := by
        rcases Int.lt_or_le (sta c) s.1 with h | h
        . exact absurd (.inr h) hc
        . exact h
      obtain ⟨⟨d, hd, hdp, hds⟩, hall⟩ := h2 hs
      refine ⟨⟨fun _ => ⟨c, by simp, hp⟩, fun _ => hs⟩, fun _ => ⟨⟨d, by simp [hd], hdp, hds⟩, fun d hd hdp => ?_⟩⟩
      rcases List.mem_append.1 hd with hd | hd
      . exact hall d hd hdp
      . rw [List.mem_singleton] at hd; subst hd; exact hge
  . rw [if_neg (fun h => hp h.1)]
    refine ⟨⟨fun hs => ?_, fun ⟨d, hd, hdp⟩ => ?_⟩, fun hs => ?_⟩
    . obtain ⟨d, hd, hdp⟩ := h1.1 hs; exact ⟨d, by simp [hd], hdp⟩
    . rcases List.mem_append.1 hd with hd | hd
      . exact h1.2 ⟨d, hd, hdp⟩
      . rw [List.mem_singleton] at hd; subst hd; exact absurd hdp hp
    . obtain ⟨⟨d, hd, hdp, hds⟩, hall⟩ := h2 hs
      refine ⟨⟨d, by simp [hd], hdp, hds⟩, fun d hd hdp => ?_⟩
      rcases List.mem_append.1 hd with hd | hd
      . exact hall d hd hdp
      . rw [List.mem_singleton] at hd; subst hd; exact absurd hdp hp
theorem e6w (l : List Claim) : f0g l (e14 l) := by
  have go : ∀ (b a : List Claim) (s : Int × Bool), f0g a s -> f0g (a ++ b) (b.foldl d16 s) := by
    intro b
    induction b with
    | nil => intro a s h; rw [List.append_nil]; exact h
    | cons c b ih =>
      intro a s h
      have := ih (a ++ [c]) _ (e2h h c)
      rw [List.append_assoc] at this
      exact this
  have h0 : f0g [] (0, false) := ⟨⟨(fun h => by cases h), (fun ⟨c, hc, _⟩ => by cases hc)⟩, (fun h => by cases h)⟩
  have := go l [] (0, false) h0
  exact this
theorem d3f {l q : List Claim} (h : ∀ c, c ∈ q ↔ c ∈ l) (hex : ∃ c ∈ l, c.Person = 1) : ∃ m, e14 l = (m, true) /\ e14 q = (m, true) /\ ∃ c ∈ l, sta c = m := by
  obtain ⟨l1, l2⟩ := e6w l
  obtain ⟨q1, q2⟩ := e6w q
  obtain ⟨c0, hc0, hp0⟩ := hex
  have hl := l1.2 ⟨c0, hc0, hp0⟩
  have hq := q1.2 ⟨c0, (h c0).2 hc0, hp0⟩
  obtain ⟨⟨a, ha, hap, has⟩, hla⟩ := l2 hl
  obtain ⟨⟨b, hb, hbp, hbs⟩, hqa⟩ := q2 hq
  have x1 := hla b ((h b).1 hb) hbp
  have x2 := hqa a ((h a).2 ha) hap
  have e : (e14 l).1 = (e14 q).1 := by omega
  exact ⟨(e14 l).1, Prod.ext rfl hl, Prod.ext e.symm hq, a, ha, has⟩
theorem d0f {l : List Claim} {i : Nat} (hi : i < l.length) : (l.take (i + 1)).foldl d16 (0, false) = d16 ((l.take i).foldl d16 (0, false)) l[i] := by
  rw [List.take_succ_eq_append_getElem hi, List.foldl_append]; rfl
theorem e1d (g : decision_file) (hp : g.person = 1) (hl : g.claims.length <= 1000) (hok : ∀ c ∈ g.claims, b22 c) : a5a g = some (e14 g.claims) := by
  unfold a5a
  refine p6 (fun i => (((g.claims.take i).foldl d16 (0, false)).1, ((g.claims.take i).foldl d16 (0, false)).2, (i : Int))) g.claims.length ?_ ?_ (by have := a2s; omega)
  . intro i hi r
    obtain ⟨h1, _⟩ := c7a (hok _ (List.getElem_mem hi))
    unfold a5p
    simp only [b8l hi, if_true, a3i hi, Option.bind_some, hp, a7h (show i <= 1000000 by omega), d0f hi]
    generalize (g.claims.take i).foldl d16 (0, false) = s
    obtain ⟨m, ok⟩ := s
    unfold d16
    by_cases hp1 : g.claims[i].Person = 1
    . have e1 : (g.claims[i].Person != 1) = false := by simpa using hp1
      simp only [e1, Bool.false_eq_true, if_false, h1, Option.bind_some, hp1, true_and]
      cases ok with
      | false => simp
      | true =>
        by_cases hlt : sta g.claims[i] < m
        . simp [hlt]
        . simp [hlt]
    . have e1 : (g.claims[i].Person != 1) = true := by simpa using hp1
      simp only [e1, if_true, hp1, false_and, if_false]
  . intro r
    unfold a5p
    simp only [a85, Bool.false_eq_true, if_false, List.take_length]
    rfl
theorem e0d (l : List Claim) (hl : l.length <= 1000) (hok : ∀ c ∈ l, b22 c) : a49 l 1 = some (e14 l) := by
  unfold a49
  refine p6 (fun i => (((l.take i).foldl d16 (0, false)).1, ((l.take i).foldl d16 (0, false)).2, (i : Int))) l.length ?_ ?_ (by have := a2s; omega)
  . intro i hi r
    have ho := hok _ (List.getElem_mem hi)
    obtain ⟨_, h1, _⟩ := c7a ho
    obtain ⟨v, hv1, hv2⟩ := c1z l[i]
    rw [c4f ho] at hv1
    have hv1 := Option.some.inj hv1
    subst hv1
    unfold a6c
    simp only [b8l hi, if_true, a3i hi, Option.bind_some, h1, hv2, a7h (show i <= 1000000 by omega), d0f hi]
    generalize (l.take i).foldl d16 (0, false) = s
    obtain ⟨m, ok⟩ := s
    unfold d16
    by_cases hp1 : l[i].Person = 1
    . have e1 : (l[i].Person == 1) = true := by simpa using hp1
      simp only [e1, if_true, hp1, true_and]
      cases ok with
      | false => simp
      | true =>
        by_cases hlt : sta l[i] < m
        . simp [hlt]
        . simp [hlt]
    . have e1 : (l[i].Person == 1) = false := by simpa using hp1
      simp only [e1, Bool.false_eq_true, if_false, Option.bind_some, hp1, false_and]
  . intro r
    unfold a6c
    simp only [a85, Bool.false_eq_true, if_false, List.take_length]
    rfl
theorem e7r {s : pensionlaw26_Seeds} (h : s.Laws.length <= 9223372036854775807 /\ s.Lives.length <= 9223372036854775807 /\ s.Facts.length <= 9223372036854775807 /\ s.Claims.length <= 9223372036854775807) : Tot (a6o s) fun r => LwOK r.1 /\ r.2.1.length <= 27 /\ r.2.2.length <= 12 /\ (∀ c ∈ r.2.2, b22 c) /\ ∃ c ∈ r.2.2, c.Person = 1 := by
  unfold a6o
  refine Tot.bind (d77 h.2.1) fun a ha => Tot.bind (d6s _) fun b hb => Tot.bind (b6j (by omega)) fun c hc => ?_
  subst hc
  obtain ⟨x, hx, hok⟩ := e8d h.1
  rw [hx, Option.bind_some]
  have hA : ∃ z, a4r s.Day = some z /\ z.length = 6 /\ (∀ c ∈ z, b22 c) /\ ∃ c ∈ z, c.Person = 1 := by
    obtain ⟨z, hz, z1, z2⟩ := f5a s.Day
    refine ⟨z, hz, z1, z2, ?_⟩
    unfold a4r at hz
    rw [b8o (by decide) (by decide), Option.bind_some] at hz
    have hz := Option.some.inj hz
    subst hz
    exact ⟨_, List.mem_cons_self, rfl⟩
  obtain ⟨z, hz, z1, z2, c1, hc1, hcp⟩ := hA
  refine Tot.bind (d7x _) fun y hy => ?_
  rw [hz, Option.bind_some]
  refine Tot.bind (b6j (by omega)) fun w hw => ?_
  subst hw
  refine Tot.some ⟨hok, by simp; omega, by simp; omega, fun c hc => ?_, c1, by simp [hc1], hcp⟩
  rcases List.mem_append.1 hc with hc | hc
  . exact hy.2 c hc
  . exact z2 c hc
theorem f2g : a8g = some true := by kernel_rfl
section
variable {x : Laws} {f : List api_Fact} {c : List Claim} {p m : Int}
theorem c64 (h : LwOK x) (hb : p < 1 \/ 99 < p \/ m < 0 \/ 2399 < m) : a16 x f c p m = some ([], 1) := by
  unfold a16
  rw [(c7i h).1, Option.bind_some]
  simp only [show ((0 : Int) != 0) = false from rfl, Bool.false_eq_true, if_false, a99, Option.bind_some]
  rw [if_pos (by simp; omega)]
theorem d1u (h : LwOK x) : a16 ⟨x.States, [], x.Rates⟩ f c p m = some ([], 1) := by
  unfold a16
  rw [(c7i h).2, Option.bind_some]
  rfl
theorem d4x (h : LwOK x) (hf : f.length <= 27) (hc : c.length <= 12) (hok : ∀ d ∈ c, b22 d) {s : Int} (hs : ∀ q, (∀ d, d ∈ q ↔ d ∈ c) -> e14 q = (s, true)) (h0 : 0 <= s) (h1 : s + 120 <= m) (h2 : m <= 2399) : a16 x f c 1 m = some ([], 7) := by
  unfold a16
  rw [(c7i h).1, Option.bind_some]
  simp only [show ((0 : Int) != 0) = false from rfl, Bool.false_eq_true, if_false, a99, Option.bind_some]
  rw [if_neg (by simp; omega)]
  obtain ⟨q, hq, _, hq2, hq3⟩ := d97 c hc hok
  have hm := d4z f (by omega)
  have hml := (d0o f).2.2
  have ho : a8j x f c 1 = some (some ⟨x, c1j f, ofP (c1j f) 1, q, 1⟩) := by
    unfold a8j
    rw [hm, Option.bind_some, f2m _ _ (by omega), Option.bind_some, hq, Option.bind_some]
  rw [ho, Option.bind_some]
  have hfi := e1d ⟨x, c1j f, ofP (c1j f) 1, q, 1⟩ rfl (by show q.length <= 1000; omega) (fun d hd => hok d ((hq2 d).1 hd))
  simp only [optC, hfi, Option.bind_some]
  have hfs : e14 q = (s, true) := hs q hq2
  simp only [hfs, Bool.not_true, Bool.false_or]
  rw [if_neg (by simp; omega), i8 (by omega) (by omega), if_pos (by simp; omega)]
end
theorem b46 (s : pensionlaw26_Seeds) (p u b : Int) (h : s.Laws.length <= 9223372036854775807 /\ s.Lives.length <= 9223372036854775807 /\ s.Facts.length <= 9223372036854775807 /\ s.Claims.length <= 9223372036854775807) : a24 s p u b = some true := by
  obtain ⟨⟨x, f, c⟩, hx, k1, k2, k3, k4, k5⟩ := e7r h
  have k1 : LwOK x := k1
  have k2 : f.length <= 27 := k2
  have k3 : c.length <= 12 := k3
  have k4 : ∀ d ∈ c, b22 d := k4
  have k5 : ∃ d ∈ c, d.Person = 1 := k5
  obtain ⟨m, hm, _, d, hd, hdm⟩ := d3f (l := c) (q := c) (fun _ => Iff.rfl) k5
  have hall : ∀ q, (∀ d, d ∈ q ↔ d ∈ c) -> e14 q = (m, true) := fun q hq => by
    obtain ⟨m2, e1, e2, _⟩ := d3f hq k5
    rw [e2, <- e1, hm]
  obtain ⟨_, _, m0, m1⟩ := c7a (k4 d hd)
  rw [hdm] at m0 m1
  have b0 : 0 <= b % 1000 /\ b % 1000 < 1000 := by omega
  have b1 : 0 <= b % 100 /\ b % 100 < 100 := by omega
  unfold a24
  rw [hx, Option.bind_some, b8o (by decide) (by decide), Option.bind_some]
  show (a49 c 1).bind _ = _
  rw [e0d c (by omega) k4, hm, Option.bind_some]
  generalize b % 1000 = d1 at b0
  have i1 : i64 (1 + d1) = 1 + d1 := i8 (by omega) (by omega)
  have i2 : i64 (99 + (1 + d1)) = 99 + (1 + d1) := i8 (by omega) (by omega)
  have i3 : i64 (2399 + (1 + d1)) = 2399 + (1 + d1) := i8 (by omega) (by omega)
  have i4 : i64 (-(1 + d1)) = -(1 + d1) := i8 (by omega) (by omega)
  simp only [i1, i2, i3, i4]
  rw [c64 k1 (by omega), Option.bind_some, c64 k1 (by omega), Option.bind_some, c64 k1 (by omega), Option.bind_some, b8o (by decide) (by decide), Option.bind_some]
  generalize b % 100 = d2 at b1
  have i5 : i64 (m + 120) = m + 120 := i8 (by omega) (by omega)
  have i6 : i64 (m + 120 + d2) = m + 120 + d2 := i8 (by omega) (by omega)
  rw [i5, i6, d4x k1 k2 k3 k4 hall m0 (by omega) (by omega), Option.bind_some, d1u k1, Option.bind_some, f2g]
  rfl
end Go.PL
