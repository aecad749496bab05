/- Texts that the proof stands on: laws of the program logic, the Lean functions of the Go functions, and that the Go functions compute them. -/
import Derived.Test.YtclgfiaghflimaaGreatDoorP4
import Derived.KernelRfl
import Derived.Sort.AssemblyPlain
set_option linter.unusedVariables false
set_option linter.unusedSimpArgs false
set_option maxRecDepth 100000
namespace Go.PL
open Go Go.SX
theorem b7y (a : Int) : Tot (a1d a) fun _ => True := by
  unfold a1d
  rw [a07, Option.bind_some]
  exact Tot.some trivial
theorem b0q (a : Rounding) : Tot (y6 a) fun _ => True := by
  unfold y6
  simp only [a07, Option.bind_some]
  exact Tot.some trivial
theorem b24 (a b : Int) : Tot (a04 a b) fun _ => True := by
  unfold a04
  refine Tot.loop (I := fun v : List ByteArray × Int => v.1.length = 15 /\ 0 <= v.2) (μ := fun v => (15 - v.2).toNat) ⟨rfl, Int.le_refl _⟩ (by decide) ?_
  intro r v hI ih
  obtain ⟨g1, g2⟩ := hI
  unfold a5j
  rw [a07, Option.bind_some]
  refine Tot.ite (fun h => ?_) fun _ => Tot.some trivial
  simp at h
  obtain ⟨x, hx, _⟩ := o3 (l := v.1) g2 h.1
  simp only [hx, Option.bind_some]
  refine Tot.bind (Q := fun _ => True) (Tot.ite (fun _ => Tot.bind (c3r x) fun _ _ => Tot.some trivial) fun _ => Tot.some trivial) fun p1 _ => ?_
  refine Tot.bind (Q := fun _ => True) (Tot.ite (fun _ => Tot.some trivial) fun _ => Tot.bind (Q := fun _ => True) (Tot.ite (fun _ => Tot.bind (b5l x) fun _ _ => Tot.some trivial) fun _ => Tot.some trivial) fun _ _ => Tot.some trivial) fun p2 _ => ?_
  refine Tot.bind (Q := fun _ => True) (Tot.ite (fun _ => Tot.some trivial) fun _ => Tot.bind (Q := fun _ => True) (Tot.ite (fun _ => Tot.bind (c2d x) fun _ _ => Tot.some trivial) fun _ => Tot.some trivial) fun _ _ => Tot.some trivial) fun p3 _ => ?_
  refine Tot.ite (fun _ => Tot.some trivial) fun _ => ?_
  rw [a4x g2 (by omega)]
  exact ih (v.1, v.2 + 1) ⟨g1, by show 0 <= v.2 + 1; omega⟩ (by show (15 - (v.2 + 1)).toNat < (15 - v.2).toNat; omega)
theorem a6z (f : Fraction) : Tot (o6 f) fun b => b = true -> 1 <= f.Den /\ f.Den <= 1000000000 /\ -1000000000000000 <= f.Num /\ f.Num <= 1000000000000000 := by
  unfold o6
  simp only [a07, Option.bind_some]
  refine Tot.bind (Q := fun b => b = true -> 1 <= f.Den /\ f.Den <= 1000000000 /\ -1000000000000000 <= f.Num /\ f.Num <= 1000000000000000) (Tot.ite (fun h => ?_) fun _ => Tot.some fun h => by cases h) fun b hb => Tot.some hb
  simp at h
  obtain ⟨x, hx, x0, x1, _⟩ := b3j f.Num
  rw [hx, Option.bind_some, c6b (by omega) (by omega)]
  exact Tot.bind (c2p x0 (by omega) (by omega) x1 (by omega)) fun _ _ => Tot.some fun _ => ⟨by omega, by omega, by omega, by omega⟩
theorem c1v {n : Int} (h0 : 0 <= n) (h1 : n <= 1000000000000000) : Tot (a0x n 1) fun r => (r.size : Int) <= n + 1 := by
  unfold a0x
  have hs : a18.size = 10 := by decide
  refine Tot.loop (I := fun v : Int × ByteArray => 0 <= v.1 /\ v.1 <= n /\ v.1 + (v.2.size : Int) <= n + 1) (μ := fun v => 2 * v.1.toNat + (1 - v.2.size)) (s := (n, a1t)) ⟨h0, Int.le_refl _, by show n + (a1t.size : Int) <= n + 1; rw [show a1t.size = 0 from rfl]; omega⟩ (by show 2 * n.toNat + (1 - a1t.size) < _; omega) ?_
  intro r v hI ih
  obtain ⟨g1, g2, g3⟩ := hI
  unfold a5d
  rw [a1j, Option.bind_some]
  refine Tot.ite (fun h => ?_) fun _ => Tot.some (by omega)
  simp at h
  refine Tot.bind (a3m g1 (by omega)) fun a ha => Tot.bind (a3m g1 (by omega)) fun b hb => ?_
  have hab : a = b := by omega
  subst hab
  rw [a4x (by omega) (by omega)]
  refine Tot.bind (a1l (by omega) (by omega) (by rw [hs]; omega)) fun c hc => Tot.bind (c6 (by omega)) fun d hd => Tot.bind (a6a g1 (by omega) (by omega)) fun e he => ?_
  refine ih (e, d) ⟨he.2.1, by show e <= n; omega, by show e + (d.size : Int) <= n + 1; omega⟩ (by show 2 * e.toNat + (1 - d.size) < 2 * v.1.toNat + (1 - v.2.size); omega)
theorem b0d {n : Int} (h0 : 0 <= n) (h1 : n <= 999999999) : Tot (s5 ⟨n, 1⟩) fun r => r.size <= 1000000000 := by
  unfold s5
  refine Tot.bind (a6z _) fun b _ => Tot.ite (fun _ => Tot.some (by decide)) fun _ => ?_
  obtain ⟨x, hx, x0, x1, x2⟩ := b3j n
  have := x2 h0 (by omega)
  subst this
  dsimp only
  rw [hx, Option.bind_some, l7 (by omega) (by omega)]
  refine Tot.bind (c1v h0 (by omega)) fun d hd => ?_
  rw [if_neg (by simp; omega)]
  refine Tot.join ?_
  unfold a05
  rw [if_neg (by simp)]
  exact Tot.some (by show d.size <= _; omega)
theorem a7u (f : Fraction) (k : Int) : Tot (o5 f k) fun _ => True := by
  have fin : ∀ (s : ByteArray) (m : Int), s.size <= 1000000010 -> 0 <= m -> m < 10000 -> 2 <= k -> k <= 4 -> Tot (p7 (k, s, m)) fun _ => True := by
    intro s m hs m0 m1 k0 k1
    unfold p7
    have h9 : a18.size = 10 := by decide
    refine Tot.loop (I := fun v : ByteArray × Int × Int => 0 <= v.2.1 /\ 0 <= v.2.2 /\ (v.1.size : Int) + v.2.2 <= 1000001010 /\ ((v.2.2 = 1000 /\ v.2.1 < 10000) \/ (v.2.2 = 100 /\ v.2.1 < 1000) \/ (v.2.2 = 10 /\ v.2.1 < 100) \/ (v.2.2 = 1 /\ v.2.1 < 10) \/ v.2.1 = 0)) (μ := fun v => v.2.2.toNat) (s := (s, m, 1000)) ⟨m0, by show (0 : Int) <= 1000; omega, by show (s.size : Int) + 1000 <= _; omega, .inl ⟨rfl, m1⟩⟩ (by show (1000 : Int).toNat < _; omega) ?_
    intro r v hI ih
    obtain ⟨g1, g2, g3, g4⟩ := hI
    unfold a27
    refine Tot.ite (fun h => ?_) fun _ => ?_
    . simp at h
      have hp : 0 < v.2.2 := by omega
      have hq : v.2.1 / v.2.2 <= 9 := by
        rcases g4 with ⟨e, _⟩ | ⟨e, _⟩ | ⟨e, _⟩ | ⟨e, _⟩ | e
        . rw [e]; omega
        . rw [e]; omega
        . rw [e]; omega
        . rw [e]; omega
        . omega
      obtain ⟨q, hq0, hq1, hq2, _⟩ := a6a (a := v.2.1) (b := v.2.2) g1 (by omega) hp
      simp only [hq0, Option.bind_some]
      rw [a4x hq2 (by omega)]
      refine Tot.bind (a1l hq2 (by omega) (by rw [h9]; omega)) fun c hc => Tot.bind (c6 (by omega)) fun d hd => Tot.bind (a3m g1 hp) fun e he => Tot.bind (a6a (a := v.2.2) (b := 10) g2 (by omega) (by omega)) fun z hz => ?_
      refine ih (d, e, z) ⟨he.2.1, hz.2.1, by show (d.size : Int) + z <= _; omega, ?_⟩ (by show z.toNat < v.2.2.toNat; omega)
      show (z = 1000 /\ e < 10000) \/ (z = 100 /\ e < 1000) \/ (z = 10 /\ e < 100) \/ (z = 1 /\ e < 10) \/ e = 0
      omega
    . have e1 : i64 (k - 2) = k - 2 := l7 (by omega) (by omega)
      rw [e1]
      refine Tot.bind (o3 (l := [a1t, d1a, c9z]) (by omega) (by simp; omega)) fun _ _ => Tot.bind (o3 (l := [a1t, d1a, c9z]) (by omega) (by simp; omega)) fun x hx => ?_
      have hx1 : x.size <= 1 := by
        simp at hx
        rcases hx with rfl | rfl | rfl <;> decide
      exact Tot.bind (c6 (by omega)) fun _ _ => Tot.some trivial
  unfold o5
  refine Tot.bind (a6z f) fun b hb => ?_
  rw [a1j, Option.bind_some]
  refine Tot.bind (Q := fun c => c = false -> b = true /\ 0 <= f.Num /\ ∃ x, b31 10000 f.Den = some x /\ x = 0) (Tot.ite (fun _ => Tot.some fun h => by cases h) fun hn => ?_) fun c hc => ?_
  . have hn : b = true /\ 0 <= f.Num := by simpa using hn
    have hd := hb hn.1
    obtain ⟨x, hx, _⟩ := a3m (a := 10000) (b := f.Den) (by omega) (by omega)
    rw [hx, Option.bind_some]
    exact Tot.some fun hh => ⟨hn.1, hn.2, x, rfl, by simpa using hh⟩
  simp only [a1j, Option.bind_some]
  refine Tot.ite (fun _ => Tot.some trivial) fun hn => ?_
  simp at hn
  obtain ⟨⟨hc1, hk0⟩, hk1⟩ := hn
  obtain ⟨b1, n0, x, hx, x0⟩ := hc hc1
  obtain ⟨d0, d1, _, n1⟩ := hb b1
  have hmod : 10000 % f.Den = 0 := by
    rw [b46 (by omega), b4y (by omega)] at hx
    rw [<- x0]; exact Option.some.inj hx
  refine Tot.bind (a6a n0 (by omega) (by omega)) fun q hq => Tot.ite (fun _ => Tot.some trivial) fun hn => ?_
  have hq9 : q <= 999999999 := by simp at hn; omega
  refine Tot.bind (b0d hq.2.1 hq9) fun s hs => Tot.bind (a6a (a := 10000) (b := f.Den) (by omega) (by omega) (by omega)) fun z hz => ?_
  have hqd : q * f.Den <= f.Num := by rw [hq.1]; exact Int.ediv_mul_le _ (by omega)
  have hqd0 : 0 <= q * f.Den := Int.mul_nonneg hq.2.1 (by omega)
  have hrd : f.Num - q * f.Den < f.Den := by
    have := Int.lt_ediv_add_one_mul_self f.Num (b := f.Den) (by omega)
    rw [hq.1]
    rw [Int.add_mul, Int.one_mul] at this
    omega
  have hzd : f.Den * z = 10000 := by
    rw [hz.1]
    have := Int.emod_add_mul_ediv 10000 f.Den
    omega
  have hr0 : 0 <= f.Num - q * f.Den := by omega
  have hX0 : 0 <= (f.Num - q * f.Den) * z := Int.mul_nonneg hr0 hz.2.1
  have hX1 : (f.Num - q * f.Den) * z < 10000 := by
    rw [<- hzd]
    have hz1 : 0 < z := by
      rcases Int.lt_or_eq_of_le hz.2.1 with h | h
      . exact h
      . rw [<- h] at hzd; simp at hzd
    exact Int.mul_lt_mul_of_pos_right hrd hz1
  have e1 : i64 (q * f.Den) = q * f.Den := l7 (by omega) (by omega)
  have e2 : i64 (f.Num - q * f.Den) = f.Num - q * f.Den := l7 (by omega) (by omega)
  have e3 : i64 ((f.Num - q * f.Den) * z) = (f.Num - q * f.Den) * z := l7 (by omega) (by omega)
  rw [e1, e2, e3]
  refine Tot.ite (fun _ => ?_) fun _ => Tot.join (fin _ _ (by omega) hX0 hX1 (by omega) (by omega))
  refine Tot.bind (c6 (by rw [show b4p.size = 1 from rfl]; omega)) fun d hd => Tot.join (fin _ _ (by rw [show b4p.size = 1 from rfl] at hd; omega) hX0 hX1 (by omega) (by omega))
theorem b9o : ∀ (n m : Nat) (e : Expr), n <= m -> EB n e -> Tot ((i6 m).f_pensionref5_Depth e) fun _ => True
  | 0, _, _, _, h => h.elim
  | n + 1, 0, _, hm, _ => by omega
  | n + 1, m + 1, e, hm, h => by
    show Tot (a1p (i6 m) e) _
    unfold a1p
    refine Tot.loop (I := fun v : Expr × Int × Int => v.1 = e /\ 0 <= v.2.2) (μ := fun v => (3 - v.2.2).toNat) ⟨rfl, Int.le_refl _⟩ (by show (3 - 0 : Int).toNat < _; omega) ?_
    intro r v hI ih
    obtain ⟨g1, g2⟩ := hI
    have hl := h.1
    unfold a5t
    rw [g1]
    refine Tot.ite (fun hc => ?_) fun _ => Tot.some trivial
    simp at hc
    refine Tot.bind (o3 g2 hc) fun x hx => Tot.bind (b9o n m x (by omega) (h.2.2 x hx)) fun _ _ => ?_
    rw [a4x g2 (by omega)]
    exact ih (e, _, v.2.2 + 1) ⟨rfl, by show 0 <= v.2.2 + 1; omega⟩ (by show (3 - (v.2.2 + 1)).toNat < (3 - v.2.2).toNat; omega)
theorem c3s : ∀ (n m : Nat) (e : Expr), n <= m -> EB n e -> Tot ((j5 m).f_pensionref5_Size e) fun _ => True
  | 0, _, _, _, h => h.elim
  | n + 1, 0, _, hm, _ => by omega
  | n + 1, m + 1, e, hm, h => by
    show Tot (a23 (j5 m) e) _
    unfold a23
    refine Tot.loop (I := fun v : Expr × Int × Int => v.1 = e /\ 0 <= v.2.2) (μ := fun v => (3 - v.2.2).toNat) ⟨rfl, Int.le_refl _⟩ (by show (3 - 0 : Int).toNat < _; omega) ?_
    intro r v hI ih
    obtain ⟨g1, g2⟩ := hI
    have hl := h.1
    unfold a6m
    rw [g1]
    refine Tot.ite (fun hc => ?_) fun _ => Tot.some trivial
    simp at hc
    refine Tot.bind (o3 g2 hc) fun x hx => Tot.bind (c3s n m x (by omega) (h.2.2 x hx)) fun _ _ => ?_
    rw [a4x g2 (by omega)]
    exact ih (e, _, v.2.2 + 1) ⟨rfl, by show 0 <= v.2.2 + 1; omega⟩ (by show (3 - (v.2.2 + 1)).toNat < (3 - v.2.2).toNat; omega)
theorem b76 : ∀ (n m : Nat) (e : Expr), n <= m -> EB n e -> Tot ((g7 m).f_pensionref5_formed e) fun _ => True
  | 0, _, _, _, h => h.elim
  | n + 1, 0, _, hm, _ => by omega
  | n + 1, m + 1, e, hm, h => by
    show Tot (a1b (g7 m) e) _
    unfold a1b
    simp only [a07, Option.bind_some]
    refine Tot.bind (c31 _) fun k _ => Tot.ite (fun _ => Tot.some trivial) fun _ => Tot.ite (fun _ => ?_) fun _ => Tot.ite (fun _ => ?_) fun _ => Tot.ite (fun _ => Tot.some trivial) fun _ => ?_
    . exact Tot.bind (a7u _ _) fun q _ => Tot.some trivial
    . exact Tot.bind (Q := fun _ => True) (Tot.ite (fun _ => Tot.bind (a97 h.2.1) fun _ _ => Tot.some trivial) fun _ => Tot.some trivial) fun _ _ => Tot.some trivial
    refine Tot.loop (I := fun v : Expr × Int => v.1 = e /\ 0 <= v.2) (μ := fun v => (3 - v.2).toNat) ⟨rfl, Int.le_refl _⟩ (by show (3 - 0 : Int).toNat < _; omega) ?_
    intro r v hI ih
    obtain ⟨g1, g2⟩ := hI
    have hl := h.1
    unfold a5f
    rw [g1]
    refine Tot.ite (fun hc => ?_) fun _ => Tot.some trivial
    simp at hc
    refine Tot.bind (o3 g2 hc) fun x hx => Tot.bind (b76 n m x (by omega) (h.2.2 x hx)) fun _ _ => Tot.ite (fun _ => Tot.some trivial) fun _ => ?_
    rw [a4x g2 (by omega)]
    exact ih (e, v.2 + 1) ⟨rfl, by show 0 <= v.2 + 1; omega⟩ (by show (3 - (v.2 + 1)).toNat < (3 - v.2).toNat; omega)
theorem a69 {e : Expr} (h : EB 8001 e) : Tot (l9 e) fun _ => True := by
  unfold l9
  have hF : 8001 <= FU := by unfold FU; omega
  refine Tot.bind (b9o _ _ e hF h) fun d _ => ?_
  refine Tot.bind (Q := fun _ => True) (Tot.ite (fun _ => Tot.bind (c3s _ _ e hF h) fun _ _ => Tot.some trivial) fun _ => Tot.some trivial) fun _ _ => ?_
  exact Tot.bind (Q := fun _ => True) (Tot.ite (fun _ => Tot.bind (b76 _ _ e hF h) fun _ _ => Tot.some trivial) fun _ => Tot.some trivial) fun _ _ => Tot.some trivial
end Go.PL
namespace Go.PL
open Go Go.SX
theorem b33 {v : Version} (hv : VG v) : Tot (a03 v) fun _ => True := by
  obtain ⟨k1, k2, k3, k4, k5, kL, kG, kR⟩ := hv
  have l5 : Tot (j6 FU a0i (v, 0)) fun _ => True := by
    refine Tot.loop (I := fun s : Version × Int => s.1 = v /\ 0 <= s.2) (μ := fun s => ((v.Reduces.length : Int) - s.2).toNat) ⟨rfl, Int.le_refl _⟩ (by show ((v.Reduces.length : Int) - 0).toNat < _; omega) ?_
    intro r s hI ih
    obtain ⟨g1, g2⟩ := hI
    unfold a0i
    rw [g1]
    refine Tot.ite (fun hc => ?_) fun _ => Tot.some trivial
    simp at hc
    obtain ⟨x, hx, hm⟩ := o3 g2 hc
    simp only [hx, Option.bind_some]
    refine Tot.bind (b24 _ _) fun w _ => ?_
    refine Tot.bind (Q := fun _ => True) (Tot.ite (fun _ => Tot.some trivial) fun _ => Tot.bind (a69 (kR x hm)) fun _ _ => Tot.some trivial) fun b _ => Tot.ite (fun _ => Tot.some trivial) fun _ => ?_
    rw [a4x g2 (by omega)]
    exact ih (v, s.2 + 1) ⟨rfl, by show 0 <= s.2 + 1; omega⟩ (by show ((v.Reduces.length : Int) - (s.2 + 1)).toNat < ((v.Reduces.length : Int) - s.2).toNat; omega)
  have l4 : Tot (j6 FU a0n (v, 0)) fun _ => True := by
    refine Tot.loop (I := fun s : Version × Int => s.1 = v /\ 0 <= s.2) (μ := fun s => ((v.Grants.length : Int) - s.2).toNat) ⟨rfl, Int.le_refl _⟩ (by show ((v.Grants.length : Int) - 0).toNat < _; omega) ?_
    intro r s hI ih
    obtain ⟨g1, g2⟩ := hI
    unfold a0n
    rw [g1]
    refine Tot.ite (fun hc => ?_) fun _ => l5
    simp at hc
    obtain ⟨x, hx, hm⟩ := o3 g2 hc
    simp only [hx, Option.bind_some]
    refine Tot.bind (b24 _ _) fun w _ => ?_
    refine Tot.bind (Q := fun _ => True) (Tot.ite (fun _ => Tot.some trivial) fun _ => Tot.bind (a69 (kG x hm).1) fun _ _ => Tot.some trivial) fun b _ => ?_
    refine Tot.bind (Q := fun _ => True) (Tot.ite (fun _ => Tot.some trivial) fun _ => Tot.bind (a69 (kG x hm).2) fun _ _ => Tot.some trivial) fun b _ => Tot.ite (fun _ => Tot.some trivial) fun _ => ?_
    rw [a4x g2 (by omega)]
    exact ih (v, s.2 + 1) ⟨rfl, by show 0 <= s.2 + 1; omega⟩ (by show ((v.Grants.length : Int) - (s.2 + 1)).toNat < ((v.Grants.length : Int) - s.2).toNat; omega)
  have l3 : Tot (j6 FU a0h (v, 0)) fun _ => True := by
    refine Tot.loop (I := fun s : Version × Int => s.1 = v /\ 0 <= s.2) (μ := fun s => ((v.Lets.length : Int) - s.2).toNat) ⟨rfl, Int.le_refl _⟩ (by show ((v.Lets.length : Int) - 0).toNat < _; omega) ?_
    intro r s hI ih
    obtain ⟨g1, g2⟩ := hI
    unfold a0h
    rw [g1]
    refine Tot.ite (fun hc => ?_) fun _ => l4
    simp at hc
    obtain ⟨x, hx, hm⟩ := o3 g2 hc
    simp only [hx, Option.bind_some]
    refine Tot.bind (a97 (kL x hm).1) fun w _ => ?_
    refine Tot.bind (Q := fun _ => True) (Tot.ite (fun _ => Tot.some trivial) fun _ => Tot.bind (a69 (kL x hm).2) fun _ _ => Tot.some trivial) fun b _ => Tot.ite (fun _ => Tot.some trivial) fun _ => ?_
    rw [a4x g2 (by omega)]
    exact ih (v, s.2 + 1) ⟨rfl, by show 0 <= s.2 + 1; omega⟩ (by show ((v.Lets.length : Int) - (s.2 + 1)).toNat < ((v.Lets.length : Int) - s.2).toNat; omega)
  have l2 : Tot (j6 FU a0m (v, 0)) fun _ => True := by
    refine Tot.loop (I := fun s : Version × Int => s.1 = v /\ 0 <= s.2) (μ := fun s => ((v.Series.length : Int) - s.2).toNat) ⟨rfl, Int.le_refl _⟩ (by show ((v.Series.length : Int) - 0).toNat < _; omega) ?_
    intro r s hI ih
    obtain ⟨g1, g2⟩ := hI
    unfold a0m
    rw [g1]
    refine Tot.ite (fun hc => ?_) fun _ => l3
    simp at hc
    obtain ⟨x, hx, hm⟩ := o3 g2 hc
    simp only [hx, Option.bind_some]
    refine Tot.bind (a7u _ _) fun w _ => ?_
    simp only [a1j, Option.bind_some]
    refine Tot.ite (fun _ => Tot.some trivial) fun _ => ?_
    rw [a4x g2 (by omega)]
    exact ih (v, s.2 + 1) ⟨rfl, by show 0 <= s.2 + 1; omega⟩ (by show ((v.Series.length : Int) - (s.2 + 1)).toNat < ((v.Series.length : Int) - s.2).toNat; omega)
  have l1 : Tot (j6 FU a0g (v, 0)) fun _ => True := by
    refine Tot.loop (I := fun s : Version × Int => s.1 = v /\ 0 <= s.2) (μ := fun s => ((v.Credits.length : Int) - s.2).toNat) ⟨rfl, Int.le_refl _⟩ (by show ((v.Credits.length : Int) - 0).toNat < _; omega) ?_
    intro r s hI ih
    obtain ⟨g1, g2⟩ := hI
    unfold a0g
    rw [g1]
    refine Tot.ite (fun hc => ?_) fun _ => l2
    simp at hc
    obtain ⟨x, hx, hm⟩ := o3 g2 hc
    simp only [hx, Option.bind_some]
    refine Tot.bind (b24 _ _) fun w _ => ?_
    simp only [a1j, Option.bind_some]
    refine Tot.ite (fun _ => Tot.some trivial) fun _ => ?_
    rw [a4x g2 (by omega)]
    exact ih (v, s.2 + 1) ⟨rfl, by show 0 <= s.2 + 1; omega⟩ (by show ((v.Credits.length : Int) - (s.2 + 1)).toNat < ((v.Credits.length : Int) - s.2).toNat; omega)
  unfold a03
  refine Tot.bind (b7y _) fun b _ => ?_
  refine Tot.bind (Q := fun _ => True) (Tot.ite (fun _ => Tot.some trivial) fun _ => Tot.bind (b0q _) fun _ _ => Tot.some trivial) fun b _ => ?_
  simp only [a1j, Option.bind_some]
  exact Tot.ite (fun _ => Tot.some trivial) fun _ => l1
theorem c5m {s : Statute} (hn : s.Name.size <= 8000) (hl : s.Versions.length <= 8001) (hv : ∀ v ∈ s.Versions, VG v) : Tot (a2p s) fun _ => True := by
  unfold a2p
  refine Tot.bind (a97 hn) fun b _ => ?_
  simp only [a1j, Option.bind_some]
  refine Tot.ite (fun _ => Tot.some trivial) fun _ => ?_
  refine Tot.loop (I := fun x : Statute × Int => x.1 = s /\ 0 <= x.2) (μ := fun x => ((s.Versions.length : Int) - x.2).toNat) ⟨rfl, Int.le_refl _⟩ (by show ((s.Versions.length : Int) - 0).toNat < _; omega) ?_
  intro r x hI ih
  obtain ⟨g1, g2⟩ := hI
  unfold a5z
  rw [g1]
  refine Tot.ite (fun hc => ?_) fun _ => Tot.some trivial
  simp at hc
  refine Tot.bind (o3 g2 hc) fun v hm => Tot.bind (b33 (hv v hm)) fun _ _ => Tot.ite (fun _ => Tot.some trivial) fun _ => ?_
  rw [a4x g2 (by omega)]
  exact ih (s, x.2 + 1) ⟨rfl, by show 0 <= x.2 + 1; omega⟩ (by show ((s.Versions.length : Int) - (x.2 + 1)).toNat < ((s.Versions.length : Int) - x.2).toNat; omega)
theorem c94 (s : ByteArray) : Tot (a2v s) fun q => (∃ r, q.1 = some r /\ RI r) \/ (q.1 = none /\ (q.2.2 != 0) = true) := by
  unfold a2v
  refine Tot.bind (d5q s) fun q hq => Tot.ite (fun h => Tot.some (.inr ⟨rfl, h⟩)) fun _ => Tot.some (.inl ⟨_, rfl, ?_⟩)
  exact ⟨Int.le_refl 0, by show (0 : Int) <= (q.1.length : Int); omega, hq.2.1, hq.1⟩
theorem c7h {r : pensionref5_reader} (h : RI r) : Tot (a02 r) fun _ => True := by
  unfold a02
  refine Tot.ite (fun hc => ?_) fun _ => Tot.some trivial
  simp at hc
  exact Tot.bind (o3 h.1 hc) fun _ _ => Tot.some trivial
theorem c5w (s : ByteArray) : Tot (a2t s) fun _ => True := by
  unfold a2t
  refine Tot.bind (c94 s) fun q hq => ?_
  rcases hq with ⟨r, hr, hI⟩ | ⟨hn, hc⟩
  case inr =>
    rw [hn]
    show Tot (if (q.2.2 != 0) = true then _ else _) _
    rw [if_pos hc]
    exact Tot.some trivial
  rw [hr]
  show Tot (if (q.2.2 != 0) = true then _ else _) _
  refine Tot.ite (fun _ => Tot.some trivial) fun _ => ?_
  refine Tot.bind (s4 hI _) fun q1 g1 => ?_
  have r1 := g1.1.ri hI
  refine Tot.bind (b89 r1) fun q2 g2 => ?_
  have r2 := g2.1.ri r1
  refine Tot.bind (s4 r2 _) fun q3 g3 => ?_
  have r3 := g3.1.ri r2
  refine Tot.bind (a8t r3 _ _) fun q4 g4 => ?_
  have r4 := g4.1.ri r3
  refine Tot.bind (s4 r4 _) fun q5 g5 => ?_
  have r5 := g5.1.ri r4
  refine Tot.loop (σ := (List Version) × Statute × pensionref5_reader × (List Version) × Statute × Bool) (I := fun v => RS q5 v.2.2.1 /\ ((v.2.2.2.1.length : Int) <= v.2.2.1.at_ \/ (v.2.2.1.bad = true /\ (v.2.2.2.1.length : Int) <= v.2.2.1.at_ + 1)) /\ (∀ x ∈ v.2.2.2.1, VG x) /\ v.2.2.2.2.1.Name.size <= 8000) (μ := fun v => 2 * left v.2.2.1 + (if v.2.2.1.bad = true then 0 else 1))
    (s := ([], (⟨a1t, 0, []⟩ : Statute), q5, [], (⟨q2.1, q4.1, []⟩ : Statute), true)) ⟨RS.refl r5, .inl r5.1, (fun x hx => by cases hx), g2.2.1⟩ (by
      show 2 * left q5 + (if q5.bad = true then 0 else 1) < _
      have h8 := r5.2.2.1
      have h10 : left q5 <= 8000 := by unfold left; have := r5.1; omega
      split <;> omega) ?_
  intro rc v hv ih
  obtain ⟨i1, i2, i3, i4⟩ := hv
  have rv := i1.ri r5
  have h8 := b9k r5 i1
  have fin : ∀ (p : pensionref5_reader), RI p -> Tot (a1a (v.1, (⟨v.2.1.Name, v.2.1.Currency, []⟩ : Statute), p, v.2.2.2.1, (⟨v.2.2.2.2.1.Name, v.2.2.2.2.1.Currency, []⟩ : Statute))) fun _ => True := by
    intro p hp
    unfold a1a
    rw [a1j, Option.bind_some]
    refine Tot.ite (fun _ => Tot.bind (c7h hp) fun _ _ => Tot.some trivial) fun _ => ?_
    exact Tot.bind (c5m i4 (by show v.2.2.2.1.length <= 8001; omega) i3) fun _ _ => Tot.ite (fun _ => Tot.some trivial) fun _ => Tot.some trivial
  have nxt : ∀ (p : pensionref5_reader), p = v.2.2.1 -> v.2.2.1.bad = false -> Tot (a19 rc (v.1, (⟨v.2.1.Name, v.2.1.Currency, []⟩ : Statute), p, v.2.2.2.1, (⟨v.2.2.2.2.1.Name, v.2.2.2.2.1.Currency, []⟩ : Statute))) fun _ => True := by
    intro p hp hb
    subst hp
    unfold a19
    have hlen : (v.2.2.2.1.length : Int) <= v.2.2.1.at_ := by
      rcases i2 with h | h
      . exact h
      . rw [hb] at h; cases h.1
    refine Tot.bind (c12 rv) fun x gx => Tot.bind (a3h (by simp; omega)) fun l hl => ?_
    subst hl
    have gx : (RS v.2.2.1 x.2 /\ (v.2.2.1.at_ < x.2.at_ \/ x.2.bad = true) /\ VG x.1) := gx
    have ha := gx.1.2.1
    refine ih _ ⟨i1.trans gx.1, ?_, fun y hy => (b3g hy).elim (i3 y) fun e => by subst e; exact gx.2.2, i4⟩ ?_
    . show ((v.2.2.2.1 ++ [x.1]).length : Int) <= x.2.at_ \/ (x.2.bad = true /\ ((v.2.2.2.1 ++ [x.1]).length : Int) <= x.2.at_ + 1)
      rw [List.length_append]
      simp only [List.length_cons, List.length_nil]
      rcases gx.2.1 with h | h
      . left; omega
      . right; exact ⟨h, by omega⟩
    . show 2 * left x.2 + (if x.2.bad = true then 0 else 1) < 2 * left v.2.2.1 + (if v.2.2.1.bad = true then 0 else 1)
      rw [hb]
      rcases gx.2.1 with h | h
      . have := a93 rv gx.1 h
        split <;> simp <;> omega
      . have := a4v gx.1
        rw [h]
        simp
        omega
  unfold a63
  refine Tot.ite (fun hb => ?_) fun _ => Tot.join (fin _ rv)
  have hb : v.2.2.1.bad = false := by simpa using hb
  refine Tot.ite (fun _ => Tot.join (nxt _ rfl hb)) fun _ => ?_
  refine Tot.bind (a2c rv _) fun t ht => Tot.ite (fun hp => Tot.join (nxt _ (ht.2.2.2 (by simpa using hp)) hb)) fun _ => Tot.join (fin _ (ht.1.ri rv))
end Go.PL
namespace Go.PL
open Go Go.SX
theorem a31 (l : List Int) (k : Int) (s : ByteArray) (hl : l.length <= 9223372036854775807) (hs : s.size <= 2400) : Tot (a0r (l, k, s)) fun r => r.size <= 2500 := by
  unfold a0r
  try dsimp only
  have hstr__7d_ : b7u.size = 2 := by decide
  have hstrh_a41f67 : b5h.size = 51 := by decide
  refine Tot.bind (n8 _ _ hl) fun v105 hv105 => ?_
  refine Tot.bind (r8 (by omega) (by omega)) fun v106 hv106 => ?_
  refine Tot.ite (fun hc => ?_) fun hc => ?_
  . skip
    refine Tot.bind (c6 (by omega)) fun v107 hv107 => ?_
    refine Tot.bind (c6 (by omega)) fun v108 hv108 => ?_
    exact Tot.some (by first | exact trivial | omega)
  . skip
    refine Tot.bind (c6 (by omega)) fun v109 hv109 => ?_
    exact Tot.some (by first | exact trivial | omega)
theorem a39 (l : List Int) (k : Int) (s : ByteArray) (hl : l.length <= 9223372036854775807) (hs : s.size <= 1900) : Tot (a0t (l, k, s)) fun r => r.size <= 2500 := by
  unfold a0t
  try dsimp only
  have hstr__3b_ : a6x.size = 2 := by decide
  have hstr_d_pay_ : b73.size = 6 := by decide
  have hstr_reduce_old_by_ : a71.size = 14 := by decide
  have hstrh_635cfa : b3z.size = 14 := by decide
  have hstrh_a54acb : b4o.size = 27 := by decide
  have hstrh_af57c7 : b43.size = 27 := by decide
  have hstrh_bfa283 : b3r.size = 29 := by decide
  refine Tot.bind (n8 _ _ hl) fun v79 hv79 => ?_
  refine Tot.bind (r8 (by omega) (by omega)) fun v80 hv80 => ?_
  refine Tot.bind (a2q (by omega) (by omega)) fun v81 hv81 => ?_
  refine Tot.bind (c6 (by omega)) fun v82 hv82 => ?_
  refine Tot.bind (c6 (by omega)) fun v83 hv83 => ?_
  refine Tot.bind (n8 _ _ hl) fun v84 hv84 => ?_
  refine Tot.bind (r8 (by omega) (by omega)) fun v85 hv85 => ?_
  refine Tot.bind (a96 (by omega) (by omega)) fun v86 hv86 => ?_
  refine Tot.bind (c6 (by omega)) fun v87 hv87 => ?_
  refine Tot.bind (c6 (by omega)) fun v88 hv88 => ?_
  refine Tot.bind (c6 (by omega)) fun v89 hv89 => ?_
  refine Tot.bind (n8 _ _ hl) fun v90 hv90 => ?_
  refine Tot.bind (r8 (by omega) (by omega)) fun v91 hv91 => ?_
  refine Tot.bind (a2q (by omega) (by omega)) fun v92 hv92 => ?_
  refine Tot.bind (c6 (by omega)) fun v93 hv93 => ?_
  refine Tot.bind (c6 (by omega)) fun v94 hv94 => ?_
  refine Tot.bind (c6 (by omega)) fun v95 hv95 => ?_
  refine Tot.bind (n8 _ _ hl) fun v96 hv96 => ?_
  refine Tot.bind (r8 (by omega) (by omega)) fun v97 hv97 => ?_
  refine Tot.ite (fun hc => ?_) fun hc => ?_
  . skip
    refine Tot.bind (n8 _ _ hl) fun v98 hv98 => ?_
    refine Tot.bind (r8 (by omega) (by omega)) fun v99 hv99 => ?_
    refine Tot.bind (a8r (by omega) (by omega)) fun v100 hv100 => ?_
    refine Tot.bind (c6 (by omega)) fun v101 hv101 => ?_
    refine Tot.bind (c6 (by omega)) fun v102 hv102 => ?_
    refine Tot.bind (c6 (by omega)) fun v103 hv103 => ?_
    exact Tot.join (a31 _ _ _ hl (by omega))
  . skip
    exact Tot.join (a31 _ _ _ hl (by omega))
theorem a2z (l : List Int) (k : Int) (t s : ByteArray) (hl : l.length <= 9223372036854775807) (ht : t.size <= 8) (hs : s.size <= 900) : Tot (a0q (l, k, t, s)) fun r => r.size <= 2500 := by
  unfold a0q
  try dsimp only
  have hstr__3b_ : a6x.size = 2 := by decide
  have hstr_m_29_3b_ : b2u.size = 4 := by decide
  have hstrh_196854 : b5f.size = 22 := by decide
  have hstrh_34ba8d : b51.size = 9 := by decide
  have hstrh_4d1f9b : b44.size = 13 := by decide
  have hstrh_58c487 : b54.size = 16 := by decide
  have hstrh_7bee7c : b5c.size = 31 := by decide
  have hstrh_7ff122 : b5r.size = 25 := by decide
  have hstrh_85bf07 : b4t.size = 13 := by decide
  have hstrh_98dd23 : b52.size = 20 := by decide
  have hstrh_b388fe : b5p.size = 66 := by decide
  have hstrh_d82640 : b3s.size = 23 := by decide
  have hstrh_da8d59 : b3q.size = 26 := by decide
  refine Tot.bind (n8 _ _ hl) fun v29 hv29 => ?_
  refine Tot.bind (r8 (by omega) (by omega)) fun v30 hv30 => ?_
  refine Tot.bind (a8r (by omega) (by omega)) fun v31 hv31 => ?_
  refine Tot.bind (c6 (by omega)) fun v32 hv32 => ?_
  refine Tot.bind (c6 (by omega)) fun v33 hv33 => ?_
  refine Tot.bind (n8 _ _ hl) fun v34 hv34 => ?_
  refine Tot.bind (r8 (by omega) (by omega)) fun v35 hv35 => ?_
  refine Tot.bind (a8r (by omega) (by omega)) fun v36 hv36 => ?_
  refine Tot.bind (c6 (by omega)) fun v37 hv37 => ?_
  refine Tot.bind (c6 (by omega)) fun v38 hv38 => ?_
  refine Tot.bind (c6 (by omega)) fun v39 hv39 => ?_
  refine Tot.bind (c6 (by omega)) fun v40 hv40 => ?_
  refine Tot.bind (c6 (by omega)) fun v41 hv41 => ?_
  refine Tot.bind (n8 _ _ hl) fun v42 hv42 => ?_
  refine Tot.bind (r8 (by omega) (by omega)) fun v43 hv43 => ?_
  refine Tot.bind (a8r (by omega) (by omega)) fun v44 hv44 => ?_
  refine Tot.bind (c6 (by omega)) fun v45 hv45 => ?_
  refine Tot.bind (c6 (by omega)) fun v46 hv46 => ?_
  refine Tot.bind (c6 (by omega)) fun v47 hv47 => ?_
  refine Tot.bind (n8 _ _ hl) fun v48 hv48 => ?_
  refine Tot.bind (r8 (by omega) (by omega)) fun v49 hv49 => ?_
  refine Tot.bind (a96 (by omega) (by omega)) fun v50 hv50 => ?_
  refine Tot.bind (c6 (by omega)) fun v51 hv51 => ?_
  refine Tot.bind (c6 (by omega)) fun v52 hv52 => ?_
  refine Tot.bind (n8 _ _ hl) fun v53 hv53 => ?_
  refine Tot.bind (r8 (by omega) (by omega)) fun v54 hv54 => ?_
  refine Tot.bind (a2q (by omega) (by omega)) fun v55 hv55 => ?_
  refine Tot.bind (c6 (by omega)) fun v56 hv56 => ?_
  refine Tot.bind (c6 (by omega)) fun v57 hv57 => ?_
  refine Tot.bind (n8 _ _ hl) fun v58 hv58 => ?_
  refine Tot.bind (r8 (by omega) (by omega)) fun v59 hv59 => ?_
  refine Tot.bind (a2q (by omega) (by omega)) fun v60 hv60 => ?_
  refine Tot.bind (c6 (by omega)) fun v61 hv61 => ?_
  refine Tot.bind (c6 (by omega)) fun v62 hv62 => ?_
  refine Tot.bind (c6 (by omega)) fun v63 hv63 => ?_
  refine Tot.bind (n8 _ _ hl) fun v64 hv64 => ?_
  refine Tot.bind (r8 (by omega) (by omega)) fun v65 hv65 => ?_
  refine Tot.bind (a2q (by omega) (by omega)) fun v66 hv66 => ?_
  refine Tot.bind (c6 (by omega)) fun v67 hv67 => ?_
  refine Tot.bind (c6 (by omega)) fun v68 hv68 => ?_
  refine Tot.bind (n8 _ _ hl) fun v69 hv69 => ?_
  refine Tot.bind (r8 (by omega) (by omega)) fun v70 hv70 => ?_
  refine Tot.bind (a8r (by omega) (by omega)) fun v71 hv71 => ?_
  refine Tot.bind (c6 (by omega)) fun v72 hv72 => ?_
  refine Tot.bind (c6 (by omega)) fun v73 hv73 => ?_
  refine Tot.bind (c6 (by omega)) fun v74 hv74 => ?_
  refine Tot.bind (n8 _ _ hl) fun v75 hv75 => ?_
  refine Tot.bind (r8 (by omega) (by omega)) fun v76 hv76 => ?_
  refine Tot.ite (fun hc => ?_) fun hc => ?_
  . skip
    refine Tot.bind (c6 (by omega)) fun v77 hv77 => ?_
    exact Tot.join (a39 _ _ _ hl (by omega))
  . skip
    exact Tot.join (a39 _ _ _ hl (by omega))
theorem a34 (l : List Int) (k : Int) (t s : ByteArray) (hl : l.length <= 9223372036854775807) (ht : t.size <= 8) (hs : s.size <= 800) : Tot (a0p (l, k, t, s)) fun r => r.size <= 2500 := by
  unfold a0p
  try dsimp only
  have hstrh_2afe9d : b5i.size = 18 := by decide
  refine Tot.bind (n8 _ _ hl) fun v25 hv25 => ?_
  refine Tot.bind (r8 (by omega) (by omega)) fun v26 hv26 => ?_
  refine Tot.ite (fun hc => ?_) fun hc => ?_
  . skip
    refine Tot.bind (c6 (by omega)) fun v27 hv27 => ?_
    exact Tot.join (a2z _ _ _ _ hl ht (by omega))
  . skip
    exact Tot.join (a2z _ _ _ _ hl ht (by omega))
theorem s6 (l : List Int) (k : Int) (t s : ByteArray) (hl : l.length <= 9223372036854775807) (ht : t.size <= 8) (hs : s.size <= 400) : Tot (o4 (l, k, t, s)) fun r => r.size <= 2500 := by
  unfold o4
  try dsimp only
  have hstr__3b_ : a6x.size = 2 := by decide
  have hstrh_405077 : b57.size = 19 := by decide
  have hstrh_f7dc2d : b47.size = 42 := by decide
  refine Tot.bind (n8 _ _ hl) fun v10 hv10 => ?_
  refine Tot.bind (r8 (by omega) (by omega)) fun v11 hv11 => ?_
  refine Tot.bind (a96 (by omega) (by omega)) fun v12 hv12 => ?_
  refine Tot.bind (c6 (by omega)) fun v13 hv13 => ?_
  refine Tot.bind (c6 (by omega)) fun v14 hv14 => ?_
  refine Tot.bind (c6 (by omega)) fun v15 hv15 => ?_
  refine Tot.bind (n8 _ _ hl) fun v16 hv16 => ?_
  refine Tot.bind (r8 (by omega) (by omega)) fun v17 hv17 => ?_
  refine Tot.ite (fun hc => ?_) fun hc => ?_
  . skip
    refine Tot.bind (n8 _ _ hl) fun v18 hv18 => ?_
    refine Tot.bind (r8 (by omega) (by omega)) fun v19 hv19 => ?_
    refine Tot.bind (a96 (by omega) (by omega)) fun v20 hv20 => ?_
    refine Tot.bind (c6 (by omega)) fun v21 hv21 => ?_
    refine Tot.bind (c6 (by omega)) fun v22 hv22 => ?_
    refine Tot.bind (c6 (by omega)) fun v23 hv23 => ?_
    exact Tot.join (a34 _ _ _ _ hl ht (by omega))
  . skip
    exact Tot.join (a34 _ _ _ _ hl ht (by omega))
theorem a1n (a : ByteArray) (l : List Int) (k : Int) (hl : l.length <= 9223372036854775807) (ha : a.size <= 20) : Tot (s9 a l k) fun r => r.size <= 2500 := by
  unfold s9
  try dsimp only
  have hstr___7b_round_ : a91.size = 9 := by decide
  have hstr_down_1_3b_ : a9q.size = 8 := by decide
  have hstr_even_10_3b_ : a90.size = 9 := by decide
  have hstr_from__40 : b2g.size = 6 := by decide
  have hstr_half_5_3b_ : a9v.size = 8 := by decide
  have hstr_up_1_3b_ : b2x.size = 6 := by decide
  refine Tot.bind (n8 _ _ hl) fun v1 hv1 => ?_
  refine Tot.bind (r8 (by omega) (by omega)) fun v2 hv2 => ?_
  refine Tot.bind (a96 (by omega) (by omega)) fun v3 hv3 => ?_
  refine Tot.bind (c6 (by omega)) fun v4 hv4 => ?_
  refine Tot.bind (c6 (by omega)) fun v5 hv5 => ?_
  refine Tot.bind (n8 _ _ hl) fun v6 hv6 => ?_
  refine Tot.bind (r8 (by omega) (by omega)) fun v7 hv7 => ?_
  refine Tot.ite (fun hc => ?_) fun hc => ?_
  . skip
    refine Tot.bind (c6 (by omega)) fun v8 hv8 => ?_
    exact Tot.join (s6 _ _ _ _ hl (by omega) (by omega))
  . skip
    refine Tot.ite (fun hc => ?_) fun hc => ?_
    . skip
      refine Tot.bind (c6 (by omega)) fun v110 hv110 => ?_
      exact Tot.join (s6 _ _ _ _ hl (by omega) (by omega))
    . skip
      refine Tot.ite (fun hc => ?_) fun hc => ?_
      . skip
        refine Tot.bind (c6 (by omega)) fun v111 hv111 => ?_
        exact Tot.join (s6 _ _ _ _ hl (by omega) (by omega))
      . skip
        refine Tot.bind (c6 (by omega)) fun v112 hv112 => ?_
        exact Tot.join (s6 _ _ _ _ hl (by omega) (by omega))
theorem a4h (k : Int) (l : List Int) (s : ByteArray) (hl : l.length <= 9223372036854775807) (hs : s.size <= 6000) : Tot (a1r (k, l, s)) fun r => True := by
  unfold a1r
  try dsimp only
  have hstr_2001_2d01_2d01 : a6t.size = 10 := by decide
  have hstr__7d : b53.size = 1 := by decide
  refine Tot.bind (n8 _ _ hl) fun v15 hv15 => ?_
  refine Tot.bind (r8 (by omega) (by omega)) fun v16 hv16 => ?_
  refine Tot.ite (fun hc => ?_) fun hc => ?_
  . skip
    refine Tot.bind (a1n _ _ _ hl (by decide)) fun v17 hv17 => ?_
    refine Tot.bind (c6 (by omega)) fun v18 hv18 => ?_
    refine Tot.bind (c6 (by omega)) fun v19 hv19 => ?_
    exact Tot.some (by first | exact trivial | omega)
  . skip
    refine Tot.bind (c6 (by omega)) fun v20 hv20 => ?_
    exact Tot.some (by first | exact trivial | omega)
theorem a9g {k : Int} (l : List Int) (hl : l.length <= 9223372036854775807) (h0 : 0 <= k) (h3 : k < 3) : Tot (a3i k l) fun r => True := by
  unfold a3i
  try dsimp only
  have hstr_1900_2d01_2d01 : a70.size = 10 := by decide
  have hstr_1996_2d07_2d01 : a72.size = 10 := by decide
  have hstr___7b_ : b9n.size = 3 := by decide
  have hstr__currency_ : a9m.size = 10 := by decide
  have hstr_alba : a9a.size = 4 := by decide
  have hstr_bora : a9c.size = 4 := by decide
  have hstr_cedar : a7m.size = 5 := by decide
  have hstr_statute_ : b2q.size = 8 := by decide
  have hn : ∀ x ∈ [a9a, a9c, a7m], x.size <= 10 := by decide
  refine Tot.bind (o3 (l := [a9a, a9c, a7m]) h0 h3) fun v1 hv1 => ?_
  refine Tot.bind (o3 (l := [a9a, a9c, a7m]) h0 h3) fun v2 hv2 => ?_
  have hv2 := hn v2 hv2
  refine Tot.bind (c6 (by omega)) fun v3 hv3 => ?_
  refine Tot.bind (c6 (by omega)) fun v4 hv4 => ?_
  refine Tot.bind (a96 (by omega) (by omega)) fun v5 hv5 => ?_
  refine Tot.bind (c6 (by omega)) fun v6 hv6 => ?_
  refine Tot.bind (c6 (by omega)) fun v7 hv7 => ?_
  refine Tot.bind (a1n _ _ _ hl (by decide)) fun v8 hv8 => ?_
  refine Tot.bind (c6 (by omega)) fun v9 hv9 => ?_
  refine Tot.bind (n8 _ _ hl) fun v10 hv10 => ?_
  refine Tot.bind (r8 (by omega) (by omega)) fun v11 hv11 => ?_
  refine Tot.ite (fun hc => ?_) fun hc => ?_
  . skip
    refine Tot.bind (a1n _ _ _ hl (by decide)) fun v12 hv12 => ?_
    refine Tot.bind (c6 (by omega)) fun v13 hv13 => ?_
    exact Tot.join (a4h _ _ _ hl (by omega))
  . skip
    exact Tot.join (a4h _ _ _ hl (by omega))
end Go.PL
namespace Go.PL
open Go Go.SX
theorem d1h {l : List Int} (hl : l.length <= 9223372036854775807) : Tot (a3n l) fun _ => True := by
  unfold a3n
  refine Tot.loop (σ := (List State) × (List Rules) × (List Rate) × Laws × (List State) × (List Rules) × Laws × Int) (I := fun v => 0 <= v.2.2.2.2.2.2.2 /\ v.2.2.2.2.2.2.2 <= 3 /\ (v.2.2.2.2.1.length : Int) <= v.2.2.2.2.2.2.2) (μ := fun v => (3 - v.2.2.2.2.2.2.2).toNat) ⟨Int.le_refl _, by show (0 : Int) <= 3; omega, Int.le_refl _⟩ (by show (3 - 0 : Int).toNat < _; omega) ?_
  intro r v hI ih
  obtain ⟨g1, g2, g3⟩ := hI
  unfold a6h
  refine Tot.ite (fun hc => ?_) fun _ => ?_
  . simp at hc
    refine Tot.bind (a9g l hl g1 hc) fun t _ => Tot.bind (c5w t) fun q _ => ?_
    rw [a4x g1 (by omega)]
    refine Tot.ite (fun _ => ?_) fun _ => ?_
    . refine Tot.bind (a3h (by simp; omega)) fun a ha => ?_
      subst ha
      exact ih _ ⟨by show 0 <= v.2.2.2.2.2.2.2 + 1; omega, by show v.2.2.2.2.2.2.2 + 1 <= 3; omega, by simp; omega⟩ (by show (3 - (v.2.2.2.2.2.2.2 + 1)).toNat < (3 - v.2.2.2.2.2.2.2).toNat; omega)
    . exact ih _ ⟨by show 0 <= v.2.2.2.2.2.2.2 + 1; omega, by show v.2.2.2.2.2.2.2 + 1 <= 3; omega, by show (v.2.2.2.2.1.length : Int) <= v.2.2.2.2.2.2.2 + 1; omega⟩ (by show (3 - (v.2.2.2.2.2.2.2 + 1)).toNat < (3 - v.2.2.2.2.2.2.2).toNat; omega)
  . refine Tot.bind (n8 _ _ hl) fun a _ => Tot.bind (r8 (by omega) (by omega)) fun b _ => Tot.bind (n8 _ _ hl) fun c _ => Tot.bind (r8 (by omega) (by omega)) fun d _ => ?_
    have e0 : ∀ x : Rules, m7 [x] 0 = some x := fun x => rfl
    simp only [e0, Option.bind_some]
    refine Tot.ite (fun _ => Tot.some trivial) fun _ => Tot.ite (fun _ => ?_) fun _ => ?_
    . exact Tot.bind (a3h (by simp)) fun _ _ => Tot.some trivial
    . exact Tot.bind (a3h (by simp [b49])) fun _ _ => Tot.some trivial
end Go.PL
namespace Go.PL
open Go Go.SX
def a9p (k : Int) : Prop := ∃ (s : ByteArray) (bS bT bH bC bA bR : Bool), a43 k = some s /\ n7 k = some s /\ (s.toList == a1t.toList) = false /\
  (g8 d4t s = some bS /\ d9 k 83 = some bS) /\ (g8 d3t s = some bT /\ d9 k 84 = some bT) /\ (g8 d4l s = some bH /\ d9 k 72 = some bH) /\
  (g8 d59 s = some bC /\ d9 k 67 = some bC) /\ (g8 d3z s = some bA /\ d9 k 65 = some bA) /\ (g8 d57 s = some bR /\ d9 k 82 = some bR)
theorem b2w {k : Int} (s : ByteArray) (bS bT bH bC bA bR : Bool) (h1 : a43 k = some s) (h2 : n7 k = some s) (h3 : (s.toList == a1t.toList) = false)
  (a1 : g8 d4t s = some bS) (b1 : d9 k 83 = some bS) (a2 : g8 d3t s = some bT) (b2 : d9 k 84 = some bT) (a3 : g8 d4l s = some bH) (b3 : d9 k 72 = some bH)
  (a4 : g8 d59 s = some bC) (b4 : d9 k 67 = some bC) (a5 : g8 d3z s = some bA) (b5 : d9 k 65 = some bA) (a6 : g8 d57 s = some bR) (b6 : d9 k 82 = some bR) : a9p k :=
  ⟨s, bS, bT, bH, bC, bA, bR, h1, h2, h3, ⟨a1, b1⟩, ⟨a2, b2⟩, ⟨a3, b3⟩, ⟨a4, b4⟩, ⟨a5, b5⟩, a6, b6⟩
theorem d72 : a9p 1 := b2w a4u true true true true true false (by kernel_rfl) (by kernel_rfl) (by kernel_rfl) (by kernel_rfl) (by kernel_rfl) (by kernel_rfl) (by kernel_rfl) (by kernel_rfl) (by kernel_rfl) (by kernel_rfl) (by kernel_rfl) (by kernel_rfl) (by kernel_rfl) (by kernel_rfl) (by kernel_rfl)
theorem d7p : a9p 2 := b2w a2k true false true true true false (by kernel_rfl) (by kernel_rfl) (by kernel_rfl) (by kernel_rfl) (by kernel_rfl) (by kernel_rfl) (by kernel_rfl) (by kernel_rfl) (by kernel_rfl) (by kernel_rfl) (by kernel_rfl) (by kernel_rfl) (by kernel_rfl) (by kernel_rfl) (by kernel_rfl)
theorem d6m : a9p 4 := b2w b0e true true false false false false (by kernel_rfl) (by kernel_rfl) (by kernel_rfl) (by kernel_rfl) (by kernel_rfl) (by kernel_rfl) (by kernel_rfl) (by kernel_rfl) (by kernel_rfl) (by kernel_rfl) (by kernel_rfl) (by kernel_rfl) (by kernel_rfl) (by kernel_rfl) (by kernel_rfl)
theorem d7s : a9p 5 := b2w a4c true false false false false false (by kernel_rfl) (by kernel_rfl) (by kernel_rfl) (by kernel_rfl) (by kernel_rfl) (by kernel_rfl) (by kernel_rfl) (by kernel_rfl) (by kernel_rfl) (by kernel_rfl) (by kernel_rfl) (by kernel_rfl) (by kernel_rfl) (by kernel_rfl) (by kernel_rfl)
theorem d88 : a9p 6 := b2w a7z true false false true true false (by kernel_rfl) (by kernel_rfl) (by kernel_rfl) (by kernel_rfl) (by kernel_rfl) (by kernel_rfl) (by kernel_rfl) (by kernel_rfl) (by kernel_rfl) (by kernel_rfl) (by kernel_rfl) (by kernel_rfl) (by kernel_rfl) (by kernel_rfl) (by kernel_rfl)
theorem d4r : a9p 10 := b2w b05 true false false false false true (by kernel_rfl) (by kernel_rfl) (by kernel_rfl) (by kernel_rfl) (by kernel_rfl) (by kernel_rfl) (by kernel_rfl) (by kernel_rfl) (by kernel_rfl) (by kernel_rfl) (by kernel_rfl) (by kernel_rfl) (by kernel_rfl) (by kernel_rfl) (by kernel_rfl)
theorem d4c : a9p 11 := b2w b0a false false false false false false (by kernel_rfl) (by kernel_rfl) (by kernel_rfl) (by kernel_rfl) (by kernel_rfl) (by kernel_rfl) (by kernel_rfl) (by kernel_rfl) (by kernel_rfl) (by kernel_rfl) (by kernel_rfl) (by kernel_rfl) (by kernel_rfl) (by kernel_rfl) (by kernel_rfl)
theorem d49 : a9p 14 := b2w b4i false false false false false true (by kernel_rfl) (by kernel_rfl) (by kernel_rfl) (by kernel_rfl) (by kernel_rfl) (by kernel_rfl) (by kernel_rfl) (by kernel_rfl) (by kernel_rfl) (by kernel_rfl) (by kernel_rfl) (by kernel_rfl) (by kernel_rfl) (by kernel_rfl) (by kernel_rfl)
theorem d4p {k : Int} (h0 : 1 <= k) (h1 : k <= 14) : a9p k := by
  have : k = 1 \/ k = 2 \/ k = 3 \/ k = 4 \/ k = 5 \/ k = 6 \/ k = 7 \/ k = 8 \/ k = 9 \/ k = 10 \/ k = 11 \/ k = 12 \/ k = 13 \/ k = 14 := by omega
  rcases this with rfl | rfl | rfl | rfl | rfl | rfl | rfl | rfl | rfl | rfl | rfl | rfl | rfl | rfl
  all_goals first | exact d72 | exact d7p | exact uses_3 | exact d6m | exact d7s | exact d88 | exact uses_7 | exact uses_8 | exact uses_9 | exact d4r | exact d4c | exact uses_12 | exact uses_13 | exact d49
theorem c35 {k : Int} (h : k < 1 \/ 15 <= k) : a43 k = some a1t /\ n7 k = some a1t := by
  have e : ∀ j : Int, 1 <= j -> j <= 14 -> (k == j) = false := by intro j _ _; simp; omega
  constructor
  . unfold a43 a8w a5i a74 joinC
    simp [e 1, e 2, e 3, e 4, e 5, e 6, e 7, e 8, e 9, e 10, e 11, e 12, e 13, e 14]
  . unfold n7
    rw [a1j, Option.bind_some, if_pos (by simp; omega)]
theorem a4z {k : Int} {s c : ByteArray} {n x lo hi : Int} {b : Bool} (h : g8 c s = some b /\ d9 k n = some b) :
    (Option.bind (g8 c s) fun z => a2x z x lo hi) = some (if b = true then decide (lo <= x) && decide (x <= hi) else x == 0) /\
    l6 k n x lo hi = some (if b = true then decide (lo <= x) && decide (x <= hi) else x == 0) := by
  obtain ⟨h1, h2⟩ := h
  constructor
  . unfold a2x a2e
    rw [h1]
    simp only [a07, a1j, Option.bind_some]
    cases b <;> simp
  . unfold l6
    rw [h2]
    simp only [a07, Option.bind_some]
    cases b <;> simp
theorem c1h {α β γ : Type} (a : Option α) (f : α -> Option β) (g : β -> Option γ) : (Option.bind a fun x => Option.bind (f x) g) = Option.bind (Option.bind a f) g := by cases a <;> rfl
set_option maxHeartbeats 4000000 in
theorem b4l (d : api_Fact) : ∃ b, a6b d = some b /\ g9 d = some b /\ (b = true -> 0 <= d.Span.From /\ d.Span.From < d.Span.To /\ d.Span.To <= 73049) := by
  by_cases hk : 1 <= d.Kind /\ d.Kind <= 14
  . obtain ⟨s, bS, bT, bH, bC, bA, bR, h1, h2, h3, hS, hT, hH, hC, hA, hR⟩ := d4p hk.1 hk.2
    obtain ⟨fS, rS⟩ := a4z (x := d.State) (lo := 0) (hi := 5) hS
    obtain ⟨fT, rT⟩ := a4z (x := d.Seat) (lo := 0) (hi := 5) hT
    obtain ⟨fH, rH⟩ := a4z (x := d.Share) (lo := 1) (hi := 100) hH
    obtain ⟨fC, rC⟩ := a4z (x := d.Currency) (lo := 1) (hi := 999) hC
    obtain ⟨fA, rA⟩ := a4z (x := d.Amount) (lo := 0) (hi := 1000000000) hA
    obtain ⟨fR, rR⟩ := a4z (x := d.Ref) (lo := 1) (hi := 99) hR
    generalize (if bS = true then decide (0 <= d.State) && decide (d.State <= 5) else d.State == 0) = vS at fS rS
    generalize (if bT = true then decide (0 <= d.Seat) && decide (d.Seat <= 5) else d.Seat == 0) = vT at fT rT
    generalize (if bH = true then decide (1 <= d.Share) && decide (d.Share <= 100) else d.Share == 0) = vH at fH rH
    generalize (if bC = true then decide (1 <= d.Currency) && decide (d.Currency <= 999) else d.Currency == 0) = vC at fC rC
    generalize (if bA = true then decide (0 <= d.Amount) && decide (d.Amount <= 1000000000) else d.Amount == 0) = vA at fA rA
    generalize (if bR = true then decide (1 <= d.Ref) && decide (d.Ref <= 99) else d.Ref == 0) = vR at fR rR
    unfold a6b g9
    simp only [c1h, fS, fT, fH, fC, fA, fR, rS, rT, rH, rC, rA, rR, h1, h2, Option.bind_some, h3, Bool.false_eq_true, if_false]
    unfold a2e a7h a8f a83 joinC
    simp only [Option.bind_some, a1j, a07]
    by_cases hI : (((((((decide (d.Issuer < 0) || decide (6 <= d.Issuer)) || decide (d.Number < 1)) || decide (999 < d.Number)) || decide (d.Version < 1)) || decide (99 < d.Version)) || decide (d.Person < 1)) || decide (99 < d.Person)) = true
    . refine ⟨false, ?_, ?_, by simp⟩
      . rw [if_pos]
        simp at hI ⊢; omega
      . rw [if_pos]
        simp only [hI]; rfl
    . rw [Bool.not_eq_true] at hI
      simp only [hI, Bool.false_or, Bool.false_eq_true, if_false]
      rw [if_neg (by simp at hI ⊢; omega)]
      by_cases hP : 0 <= d.Span.From /\ d.Span.From < d.Span.To /\ d.Span.To <= 73049
      . have hp1 : ((decide (0 <= d.Span.From) && decide (d.Span.From < d.Span.To)) && decide (d.Span.To <= 73049)) = true := by simp; omega
        have hp2 : ((decide (d.Span.From < 0) || decide (d.Span.To <= d.Span.From)) || decide (73049 < d.Span.To)) = false := by simp; omega
        have e1 : i64 (d.Span.From + 1) = d.Span.From + 1 := l7 (by omega) (by omega)
        have e2 : i64 (d.Span.To - d.Span.From) = d.Span.To - d.Span.From := l7 (by omega) (by omega)
        have e3 : (d.Span.To == d.Span.From + 1) = !(d.Span.To - d.Span.From != 1) := by
          rw [Bool.eq_iff_iff]; simp; omega
        simp only [hp1, hp2, e1, e2, e3, Bool.not_true, Bool.or_false, Bool.false_eq_true, if_false]
        refine ⟨!(((((d.Kind == 11) || (d.Kind == 12)) && (d.Span.To - d.Span.From != 1)) || ((d.Kind == 4) && (d.Seat == d.State))) || (((d.Kind == 10) || (d.Kind == 14)) && (d.Ref == d.Person))) && (((((vS && vT) && vH) && vC) && vA) && vR), ?_, ?_, fun _ => hP⟩
        . have hkk : d.Kind = 4 \/ d.Kind = 11 \/ d.Kind = 12 \/ d.Kind = 10 \/ d.Kind = 14 \/ ((d.Kind == 4) = false /\ (d.Kind == 11) = false /\ (d.Kind == 12) = false /\ (d.Kind == 10) = false /\ (d.Kind == 14) = false) := by simp; omega
          rcases hkk with h | h | h | h | h | ⟨g1, g2, g3, g4, g5⟩
          . simp only [h]; cases vS <;> cases vT <;> cases vH <;> cases vC <;> cases vA <;> cases vR <;> simp
            show (!(d.State == d.Seat)) = (!(d.Seat == d.State))
            rw [BEq.comm]
          . simp only [h]; cases vS <;> cases vT <;> cases vH <;> cases vC <;> cases vA <;> cases vR <;> simp
          . simp only [h]; cases vS <;> cases vT <;> cases vH <;> cases vC <;> cases vA <;> cases vR <;> simp
          . simp only [h]; cases vS <;> cases vT <;> cases vH <;> cases vC <;> cases vA <;> cases vR <;> simp
            rfl
          . simp only [h]; cases vS <;> cases vT <;> cases vH <;> cases vC <;> cases vA <;> cases vR <;> simp
            rfl
          . simp only [g1, g2, g3, g4, g5]; cases vS <;> cases vT <;> cases vH <;> cases vC <;> cases vA <;> cases vR <;> simp
        . generalize (((((d.Kind == 11) || (d.Kind == 12)) && (d.Span.To - d.Span.From != 1)) || ((d.Kind == 4) && (d.Seat == d.State))) || (((d.Kind == 10) || (d.Kind == 14)) && (d.Ref == d.Person))) = sp
          cases sp <;> cases vS <;> cases vT <;> cases vH <;> cases vC <;> cases vA <;> cases vR <;> simp
      . have hp1 : ((decide (0 <= d.Span.From) && decide (d.Span.From < d.Span.To)) && decide (d.Span.To <= 73049)) = false := by simp; omega
        have hp2 : ((decide (d.Span.From < 0) || decide (d.Span.To <= d.Span.From)) || decide (73049 < d.Span.To)) = true := by simp; omega
        refine ⟨false, ?_, ?_, by simp⟩
        . rw [if_pos]; simp only [hp1, Bool.not_false, Bool.or_true]
        . rw [if_pos hp2]; simp
  . obtain ⟨h1, h2⟩ := c35 (k := d.Kind) (by omega)
    refine ⟨false, ?_, ?_, by simp⟩
    . unfold a6b
      simp [h1]
    . unfold g9
      simp only [a1j, Option.bind_some]
      simp [h2]
end Go.PL
namespace Go.PL
open Go
theorem b0m {α β : Type} (f : α -> Option β) (a : α) : Go.SX.joinC f a = f a := rfl
theorem c60 {i n : Nat} (h : i < n) : (decide ((i : Int) < (n : Int))) = true := by simp; omega
theorem b1w (n : Nat) : ¬ (decide ((n : Int) < (n : Int))) = true := by simp
theorem c1i {α : Type} {f : (List α × Int -> Option (List α)) -> List α × Int -> Option (List α)} {k : Nat} (l : List α) (p : α -> Bool) (hl : l.length <= 2 ^ 30) (hk : k <= 1000)
    (hstep : ∀ (rec : List α × Int -> Option (List α)) (s : List α) (i : Nat) (y : α), l[i]? = some y -> f rec (s, (i : Int)) = if p y = true then Option.bind (a6y k s [y]) (fun a => rec (a, i64 ((i : Int) + 1))) else rec (s, i64 ((i : Int) + 1)))
    (hfin : ∀ (rec : List α × Int -> Option (List α)) (s : List α), f rec (s, (l.length : Int)) = some s) : j6 FU f ([], 0) = some (l.filter p) := by
  refine a3w (f := f) l (fun s i => (s, i)) (fun s i => s = (l.take i).filter p) (fun o => o = some (l.filter p)) (by omega) ?_ ?_ [] (by simp)
  . rintro rec s i y hi hy rfl
    right
    have hlen : ((l.take i).filter p).length <= i := by
      have := List.length_filter_le p (l.take i); rw [List.length_take] at this; omega
    rw [hstep _ _ _ _ hy, a57 (by omega), b02 hy, List.filter_append]
    by_cases hc : p y = true
    . rw [if_pos hc, a6p (by
        simp only [List.length_cons, List.length_nil]
        calc (((l.take i).filter p).length + 1) * k <= (2 ^ 30 + 1) * 1000 := Nat.mul_le_mul (by omega) hk
          _ <= _ := by omega), Option.bind_some]
      exact ⟨_, rfl, by simp [hc]⟩
    . rw [if_neg hc]
      rw [Bool.not_eq_true] at hc
      exact ⟨_, rfl, by simp [hc]⟩
  . rintro rec s rfl
    rw [hfin, List.take_length]
theorem c6i {α σ ρ τ : Type} {f : (σ -> Option ρ) -> σ -> Option ρ} (l : List α) (e : τ -> Int -> σ) (g : τ -> α -> τ) (out : τ -> Option ρ) (hl : l.length <= 2 ^ 30) (s0 : τ) (J : τ -> Nat -> Prop) (h0 : J s0 0)
    (hstep : ∀ (rec : σ -> Option ρ) (s : τ) (i : Nat) (y : α), l[i]? = some y -> J s i -> J (g s y) (i + 1) /\ f rec (e s (i : Int)) = rec (e (g s y) (i64 ((i : Int) + 1))))
    (hfin : ∀ (rec : σ -> Option ρ) (s : τ), J s l.length -> f rec (e s (l.length : Int)) = out s) : j6 FU f (e s0 0) = out (l.foldl g s0) := by
  refine a3w (f := f) l e (fun s i => s = (l.take i).foldl g s0 /\ J s i) (fun o => o = out (l.foldl g s0)) (by omega) ?_ ?_ s0 ⟨by simp, h0⟩
  . rintro rec s i y hi hy ⟨rfl, hJ⟩
    right
    obtain ⟨h1, h2⟩ := hstep rec _ i y hy hJ
    rw [h2, a57 (by omega)]
    exact ⟨_, rfl, (c4z hy).symm, h1⟩
  . rintro rec s ⟨rfl, hJ⟩
    rw [hfin _ _ hJ, List.take_length]
end Go.PL
namespace Go.PL
open Go Go.SX
def vld (f : api_Fact) : Bool := (g9 f).getD false
def cur (f : api_Fact) : Bool := vld f && !f.Withdrawn
theorem a7r (f : api_Fact) : g9 f = some (vld f) := by
  obtain ⟨b, h1, h2, _⟩ := b4l f
  unfold vld; rw [h2]; rfl
theorem c48 (f : api_Fact) : a6b f = some (vld f) := by
  obtain ⟨b, h1, h2, _⟩ := b4l f
  unfold vld; rw [h2, h1]; rfl
theorem b6m (f : api_Fact) : a3d f = some (cur f) := by
  unfold a3d cur
  rw [c48, Option.bind_some, a07, Option.bind_some]
def ofP (l : List api_Fact) (p : Int) : List api_Fact := l.filter fun f => f.Person == p
theorem d41 (l : List api_Fact) (p : Int) : (ofP l p).length <= l.length := List.length_filter_le _ _
theorem d76 (l : List api_Fact) (p : Int) (hl : l.length <= 2 ^ 30) : a4d l p = some (ofP l p) := by
  unfold a4d ofP
  refine c1i (k := 112) l (fun f => f.Person == p) hl (by omega) (fun rec s i y hy => ?_) fun rec s => ?_
  . have hi := (List.getElem?_eq_some_iff.1 hy).1
    unfold a4i
    dsimp only
    rw [if_pos (c60 hi)]
    simp only [a6q hy, Option.bind_some]
  . unfold a4i
    dsimp only
    rw [if_neg (b1w _)]
def d4f (kind : Int) (s : Int × Bool) (y : api_Fact) : Int × Bool := if (y.Kind == kind) && (!s.2 || decide (y.Span.From < s.1)) then (y.Span.From, true) else s
theorem c2k (l : List api_Fact) (kind : Int) (hl : l.length <= 2 ^ 30) : a5c l kind = some ((l.filter cur).foldl (d4f kind) (0, false)) := by
  rw [List.foldl_filter]
  unfold a5c
  refine c6i (f := a3x l kind) l (fun (s : Int × Bool) i => (s.1, s.2, i)) (fun x y => if cur y = true then d4f kind x y else x) (fun s => some s) hl (0, false) (fun _ _ => True) trivial (fun rec s i y hy _ => ⟨trivial, ?_⟩) fun rec s _ => ?_
  . have hi := (List.getElem?_eq_some_iff.1 hy).1
    unfold a3x
    dsimp only
    rw [if_pos (c60 hi)]
    simp only [a6q hy, Option.bind_some, b6m, a1j, a07]
    unfold d4f
    cases cur y
    . simp
    . simp only [Bool.true_and, if_true]
      by_cases hc : (y.Kind == kind && (!s.2 || decide (y.Span.From < s.1))) = true
      . rw [if_pos hc, if_pos hc]
      . rw [if_neg hc, if_neg hc]
  . unfold a3x
    dsimp only
    rw [if_neg (b1w _)]
end Go.PL
namespace Go.PL
open Go Go.SX
def a55 (n : Int) : Nat -> List Int
  | 0 => []
  | k + 1 => IntKind.u8.wrap (d69 .i64 n (8 * k)) :: a55 n k
theorem a40 (n : Int) : ∀ k, (a55 n k).length = k
  | 0 => rfl
  | k + 1 => by simp [a55, a40 n k]
theorem b6q (b : List Int) (n : Int) (k : Nat) (hk : k <= 8) (hb : b.length <= 1000000) : c8 b n (k : Int) = some (b ++ a55 n k) := by
  unfold c8
  have := b80 (f := a3q n) (fun st => ∃ (q : List Int) (j : Nat), st = (q, (j : Int) - 1) /\ j <= k /\ q ++ a55 n j = b ++ a55 n k) (fun st => (st.2 + 1).toNat) (fun r => r = b ++ a55 n k)
    (s := (b, i64 ((k : Int) - 1))) ⟨b, k, by rw [l7 (by omega) (by omega)], Nat.le_refl _, rfl⟩ (by rw [l7 (by omega) (by omega)]; dsimp only; omega) ?_
  . obtain ⟨r, h1, h2⟩ := this; rw [h1, h2]
  . rintro st rec ⟨q, j, rfl, hj, hq⟩
    unfold a3q
    dsimp only
    cases j with
    | zero =>
      left
      rw [if_neg (by simp)]
      refine ⟨_, rfl, ?_⟩
      simpa [a55] using hq
    | succ j =>
      right
      have e1 : ((j + 1 : Nat) : Int) - 1 = (j : Int) := by omega
      have hql : q.length <= 1000008 := by
        have := congrArg List.length hq
        rw [List.length_append, List.length_append, a40, a40] at this; omega
      rw [e1, if_pos (by simp), l7 (n := 8 * (j : Int)) (by omega) (by omega), c6b (by omega) (by omega)]
      unfold c5u
      rw [if_neg (by omega), Option.bind_some, a6p (by simp; omega), Option.bind_some, l7 (n := (j : Int) - 1) (by omega) (by omega)]
      refine ⟨_, rfl, ⟨_, j, rfl, by omega, ?_⟩, by dsimp only; omega⟩
      rw [<- hq, List.append_assoc]; rfl
def c5s (d : api_Fact) (c : Int) : List Int :=
  if c = 83 then a55 d.State 1 else if c = 80 then a55 d.Span.From 3 ++ a55 d.Span.To 3 else if c = 84 then a55 d.Seat 1 else if c = 72 then a55 d.Share 1 else if c = 67 then a55 d.Currency 2 else if c = 65 then a55 d.Amount 4 else if c = 82 then a55 d.Ref 1 else []
theorem d10 (d : api_Fact) (c : Int) : (c5s d c).length <= 6 := by
  unfold c5s
  repeat' split
  all_goals simp [a40]
def b5t (s : ByteArray) : Prop := s.size <= 10 /\ ∀ i : Nat, i < s.size -> a8p s (i : Int) = some ((s.get! i).toNat : Int) /\ (s.get! i).toNat < 128
def c1t (s : ByteArray) (i : Nat) : List Int := (List.range i).map fun j => ((s.get! j).toNat : Int)
theorem c6u (s : ByteArray) (i : Nat) : c1t s (i + 1) = c1t s i ++ [((s.get! i).toNat : Int)] := by unfold c1t; rw [List.range_succ, List.map_append]; rfl
theorem b1d (d : api_Fact) : ∀ l : List Int, (l.flatMap (c5s d)).length <= 6 * l.length
  | [] => by simp
  | c :: l => by
    have := b1d d l
    have h := d10 d c
    rw [List.flatMap_cons, List.length_append, List.length_cons]; omega
set_option maxHeartbeats 1000000 in
theorem d0v (d : api_Fact) (s : ByteArray) (hs : b5t s) (b : List Int) (hb : b.length <= 1000) : j6 FU (a13 s) (d, b, 0) = some (b ++ (c1t s s.size).flatMap (c5s d)) := by
  have := b80 (f := a13 s) (fun st => ∃ i : Nat, st = (d, b ++ (c1t s i).flatMap (c5s d), (i : Int)) /\ i <= s.size) (fun st => s.size - st.2.2.toNat) (fun r => r = b ++ (c1t s s.size).flatMap (c5s d))
    (s := (d, b, 0)) ⟨0, by simp [c1t], Nat.zero_le _⟩ (by dsimp only; have := hs.1; omega) ?_
  . obtain ⟨r, h1, h2⟩ := this; rw [h1, h2]
  . rintro st rec ⟨i, rfl, hi⟩
    have hs1 := hs.1
    have hlen : (b ++ (c1t s i).flatMap (c5s d)).length <= 2000 := by
      have := b1d d (c1t s i)
      have hl : (c1t s i).length = i := by simp [c1t]
      rw [List.length_append]; omega
    unfold a13
    dsimp only
    by_cases h : i < s.size
    . right
      obtain ⟨h1, _⟩ := hs.2 i h
      rw [if_pos (by simpa using h), h1, Option.bind_some, a57 (by omega)]
      refine ⟨(d, b ++ (c1t s (i + 1)).flatMap (c5s d), ((i + 1 : Nat) : Int)), ?_, ⟨i + 1, rfl, h⟩, by simp only [Int.toNat_natCast]; omega⟩
      rw [c6u, List.flatMap_append, <- List.append_assoc]
      generalize b ++ (c1t s i).flatMap (c5s d) = q at hlen ⊢
      generalize ((s.get! i).toNat : Int) = c
      simp only [List.flatMap_cons, List.flatMap_nil, List.append_nil]
      have a1 : ∀ x, c8 q x 1 = some (q ++ a55 x 1) := fun x => b6q q x 1 (by omega) (by omega)
      have a2 : ∀ x, c8 q x 2 = some (q ++ a55 x 2) := fun x => b6q q x 2 (by omega) (by omega)
      have a4 : ∀ x, c8 q x 4 = some (q ++ a55 x 4) := fun x => b6q q x 4 (by omega) (by omega)
      have a3 : ∀ x, c8 q x 3 = some (q ++ a55 x 3) := fun x => b6q q x 3 (by omega) (by omega)
      have b3 : ∀ x y, c8 (q ++ a55 x 3) y 3 = some (q ++ (a55 x 3 ++ a55 y 3)) := fun x y => by
        rw [<- List.append_assoc]; exact b6q _ y 3 (by omega) (by rw [List.length_append, a40]; omega)
      unfold c5s
      simp only [a1, a2, a3, a4, b3, Option.bind_some, beq_iff_eq]
      repeat' split
      all_goals first | rfl | simp
    . left
      have : i = s.size := by omega
      subst this
      rw [if_neg (by simp)]
      exact ⟨_, rfl, rfl⟩
theorem c51 : b5t a4u := ⟨by decide, by decide⟩
theorem b8p : b5t a2k := ⟨by decide, by decide⟩
theorem d5h : b5t b0e := ⟨by decide, by decide⟩
theorem c2s : b5t a4c := ⟨by decide, by decide⟩
theorem d0g : b5t a7z := ⟨by decide, by decide⟩
theorem d4i : b5t b05 := ⟨by decide, by decide⟩
theorem d54 : b5t b0a := ⟨by decide, by decide⟩
theorem d7y : b5t b4i := ⟨by decide, by decide⟩
theorem c3n {k : Int} (h0 : 1 <= k) (h1 : k <= 14) : ∃ s, a43 k = some s /\ n7 k = some s /\ b5t s := by
  have : k = 1 \/ k = 2 \/ k = 3 \/ k = 4 \/ k = 5 \/ k = 6 \/ k = 7 \/ k = 8 \/ k = 9 \/ k = 10 \/ k = 11 \/ k = 12 \/ k = 13 \/ k = 14 := by omega
  rcases this with rfl | rfl | rfl | rfl | rfl | rfl | rfl | rfl | rfl | rfl | rfl | rfl | rfl | rfl
  exact ⟨a4u, by kernel_rfl, by kernel_rfl, c51⟩
  exact ⟨a2k, by kernel_rfl, by kernel_rfl, b8p⟩
  exact ⟨a2k, by kernel_rfl, by kernel_rfl, b8p⟩
  exact ⟨b0e, by kernel_rfl, by kernel_rfl, d5h⟩
  exact ⟨a4c, by kernel_rfl, by kernel_rfl, c2s⟩
  exact ⟨a7z, by kernel_rfl, by kernel_rfl, d0g⟩
  exact ⟨a4c, by kernel_rfl, by kernel_rfl, c2s⟩
  exact ⟨a4c, by kernel_rfl, by kernel_rfl, c2s⟩
  exact ⟨a4c, by kernel_rfl, by kernel_rfl, c2s⟩
  exact ⟨b05, by kernel_rfl, by kernel_rfl, d4i⟩
  exact ⟨b0a, by kernel_rfl, by kernel_rfl, d54⟩
  exact ⟨b0a, by kernel_rfl, by kernel_rfl, d54⟩
  exact ⟨b0a, by kernel_rfl, by kernel_rfl, d54⟩
  exact ⟨b4i, by kernel_rfl, by kernel_rfl, d7y⟩
theorem b86 {d : api_Fact} (h : vld d = true) : 1 <= d.Kind /\ d.Kind <= 14 := by
  by_cases hk : 1 <= d.Kind /\ d.Kind <= 14
  . exact hk
  . exfalso
    have h2 := (c35 (k := d.Kind) (by omega)).2
    have hv := a7r d
    rw [h] at hv
    unfold g9 at hv
    simp only [a1j, Option.bind_some, h2] at hv
    simp at hv
def d1i (d : api_Fact) : List Int := [if d.Withdrawn = true then (1 : Int) else 0, d.Person, d.Kind].flatMap (fun n => a55 n 1) ++ ((c1t ((a43 d.Kind).getD a1t) ((a43 d.Kind).getD a1t).size).flatMap (c5s d))
def c01 (d : api_Fact) : List Int := a55 d.Issuer 1 ++ (a55 d.Number 2 ++ (a55 d.Version 1 ++ d1i d))
theorem b8s (d : api_Fact) (h : vld d = true) : a14 d = some (c01 d) := by
  obtain ⟨k0, k1⟩ := b86 h
  obtain ⟨s, e1, e2, hs⟩ := c3n k0 k1
  have key : ∀ x : Int, a0v (d, x) = some (a55 d.Issuer 1 ++ (a55 d.Number 2 ++ (a55 d.Version 1 ++ ([x, d.Person, d.Kind].flatMap (fun n => a55 n 1) ++ (c1t s s.size).flatMap (c5s d))))) := by
    intro x
    unfold a0v
    dsimp only
    have B : ∀ (b : List Int) (n : Int) (k : Nat), k <= 8 -> b.length <= 1000000 -> c8 b n (k : Int) = some (b ++ a55 n k) := fun b n k h1 h2 => b6q b n k h1 h2
    have a1 := B [] d.Issuer 1 (by omega) (by simp)
    have a2 := B ([] ++ a55 d.Issuer 1) d.Number 2 (by omega) (by simp [a40])
    have a3 := B ([] ++ a55 d.Issuer 1 ++ a55 d.Number 2) d.Version 1 (by omega) (by simp [a40])
    have a4 := B ([] ++ a55 d.Issuer 1 ++ a55 d.Number 2 ++ a55 d.Version 1) x 1 (by omega) (by simp [a40])
    have a5 := B ([] ++ a55 d.Issuer 1 ++ a55 d.Number 2 ++ a55 d.Version 1 ++ a55 x 1) d.Person 1 (by omega) (by simp [a40])
    have a6 := B ([] ++ a55 d.Issuer 1 ++ a55 d.Number 2 ++ a55 d.Version 1 ++ a55 x 1 ++ a55 d.Person 1) d.Kind 1 (by omega) (by simp [a40])
    have c1 : ((1 : Nat) : Int) = 1 := rfl
    have c2 : ((2 : Nat) : Int) = 2 := rfl
    rw [c1] at a1 a3 a4 a5 a6; rw [c2] at a2
    rw [a1, Option.bind_some, a2, Option.bind_some, a3, Option.bind_some, a4, Option.bind_some, a5, Option.bind_some, a6, Option.bind_some, e2, Option.bind_some, d0v d s hs _ (by simp [a40])]
    simp
  unfold a14 c01 d1i
  rw [a7r, h, Option.bind_some, if_neg (by simp), e1]
  cases hw : d.Withdrawn
  . rw [if_neg (by simp)]; rw [b0m, key]; simp
  . rw [if_pos rfl]; rw [b0m, key]; simp
end Go.PL
namespace Go.PL
open Go Go.SX
theorem c2h (p x y : List UInt8) : Op.bytesLess (p ++ x) (p ++ y) = Op.bytesLess x y := by
  induction p with
  | nil => rfl
  | cons a p ih =>
    rw [List.cons_append, List.cons_append]
    show (decide (a < a) || (a == a && Op.bytesLess (p ++ x) (p ++ y))) = _
    rw [ih]
    have : ¬ a < a := by
      have : ¬ a.toNat < a.toNat := Nat.lt_irrefl _
      exact this
    simp [this]
theorem a4t (x y : List Int) : Lib.bytesOf (x ++ y) = Lib.bytesOf x ++ Lib.bytesOf y := by unfold Lib.bytesOf; simp
theorem b4m (l : List Int) : (a9w l).toList = Lib.bytesOf l := by
  unfold a9w; rw [Lib.toList_data]
theorem a87 {d : api_Fact} (h : vld d = true) : (0 <= d.Issuer /\ d.Issuer <= 5) /\ (1 <= d.Number /\ d.Number <= 999) /\ 1 <= d.Version /\ d.Version <= 99 /\ 1 <= d.Person /\ d.Person <= 99 := by
  have hv := a7r d
  rw [h] at hv
  obtain ⟨s, e1, e2, _⟩ := c3n (b86 h).1 (b86 h).2
  unfold g9 at hv
  simp only [a1j, Option.bind_some, e2] at hv
  by_cases hb : (((((((decide (d.Issuer < 0) || decide (6 <= d.Issuer)) || decide (d.Number < 1)) || decide (999 < d.Number)) || decide (d.Version < 1)) || decide (99 < d.Version)) || decide (d.Person < 1)) || decide (99 < d.Person)) = true
  . have hb2 : (((((((decide (d.Issuer < 0) || decide (d.Issuer >= 6)) || decide (d.Number < 1)) || decide (d.Number > 999)) || decide (d.Version < 1)) || decide (d.Version > 99)) || decide (d.Person < 1)) || decide (d.Person > 99)) = true := hb
    rw [hb2, Bool.true_or, if_pos rfl] at hv; cases hv
  . simp at hb; omega
theorem c3f {v : Int} (h0 : 1 <= v) (h1 : v <= 99) : a55 v 1 = [v] := by
  unfold a55 a55 d69
  have e : IntKind.u8.wrap (v.fdiv (2 ^ (min (8 * 0 : Int).toNat IntKind.i64.bits))) = v := by
    have : (2 ^ (min (8 * 0 : Int).toNat IntKind.i64.bits) : Int) = 1 := by decide
    rw [this, Int.fdiv_one, IntKind.wrap_u8]; omega
  have e0 : ((8 * ((0 : Nat) : Int)) : Int) = (8 * 0 : Int) := by simp
  rw [e0, e]
def b91 (a b : api_Fact) : Bool := Op.bytesLess (Lib.bytesOf (c01 a)) (Lib.bytesOf (c01 b))
theorem d1z {a b : api_Fact} (ha : vld a = true) (hb : vld b = true) (h1 : a.Issuer = b.Issuer) (h2 : a.Number = b.Number) : a2n a b = some (b91 a b) := by
  have va := (a87 ha).2.2
  have vb := (a87 hb).2.2
  unfold a2n a0j
  rw [a7r, a7r, ha, hb]
  simp only [Option.bind_some, Bool.not_true, Bool.false_eq_true, if_false]
  rw [if_neg (by simp [h1]), h2, Int.sub_self, Option.bind_some, if_neg (by decide)]
  have hpre : b91 a b = Op.bytesLess (Lib.bytesOf (a55 a.Version 1 ++ d1i a)) (Lib.bytesOf (a55 b.Version 1 ++ d1i b)) := by
    unfold b91 c01
    rw [h1, h2, a4t, a4t, a4t (a55 b.Issuer 1), a4t (a55 b.Number 2), c2h, c2h]
  by_cases hv : a.Version = b.Version
  . rw [if_neg (by simp [hv]), b8s a ha, Option.bind_some, b8s b hb, Option.bind_some, b4m, b4m]; simp [b91]
  . rw [if_pos (by simpa using hv), hpre, c3f va.1 va.2.1, c3f vb.1 vb.2.1]
    congr 1
    rw [a4t, a4t]
    show _ = Op.bytesLess (a.Version.toNat.toUInt8 :: _) (b.Version.toNat.toUInt8 :: _)
    unfold Op.bytesLess
    have e1 : (a.Version.toNat.toUInt8).toNat = a.Version.toNat := by
      rw [Nat.toUInt8_eq, UInt8.toNat_ofNat']; omega
    have e2 : (b.Version.toNat.toUInt8).toNat = b.Version.toNat := by
      rw [Nat.toUInt8_eq, UInt8.toNat_ofNat']; omega
    have h3 : (a.Version.toNat.toUInt8 == b.Version.toNat.toUInt8) = false := by
      rw [beq_eq_false_iff_ne]
      intro h
      have := congrArg UInt8.toNat h
      omega
    rw [h3]
    have h4 : (a.Version.toNat.toUInt8 < b.Version.toNat.toUInt8) ↔ a.Version < b.Version := by
      rw [UInt8.lt_iff_toNat_lt, e1, e2]; omega
    simp [h4]
end Go.PL
namespace Go.PL
open Go Go.SX
def a9n (a b : api_Fact) : Prop := a.Issuer < b.Issuer \/ (a.Issuer = b.Issuer /\ a.Number < b.Number)
instance (a b : api_Fact) : Decidable (a9n a b) := by unfold a9n; exact inferInstance
def b2m : List api_Fact -> api_Fact -> List api_Fact
  | [], f => [f]
  | a :: t, f => if a9n a f then a :: b2m t f else if a9n f a then f :: a :: t else (if b91 a f = true then f else a) :: t
theorem c2o (f : api_Fact) : ∀ l, (b2m l f).length <= l.length + 1
  | [] => Nat.le_refl _
  | a :: t => by
    have := c2o f t
    unfold b2m
    split
    . simp; omega
    . split <;> simp
theorem b39 {f u : api_Fact} : ∀ {l : List api_Fact}, u ∈ b2m l f -> u ∈ l \/ u = f
  | [], h => by rw [b2m, List.mem_singleton] at h; exact .inr h
  | a :: t, h => by
    unfold b2m at h
    split at h
    . rcases List.mem_cons.1 h with h | h
      . exact .inl (h ▸ List.mem_cons_self ..)
      . exact (b39 h).imp (List.mem_cons_of_mem _) id
    . split at h
      . rcases List.mem_cons.1 h with h | h
        . exact .inr h
        . exact .inl h
      . rcases List.mem_cons.1 h with h | h
        . split at h
          . exact .inr h
          . exact .inl (h ▸ List.mem_cons_self ..)
        . exact .inl (List.mem_cons_of_mem _ h)
theorem b64 {a b c : api_Fact} (h1 : a9n a b) (h2 : a9n b c) : a9n a c := by unfold a9n at *; omega
theorem c37 {f : api_Fact} : ∀ {l : List api_Fact}, l.Pairwise a9n -> (b2m l f).Pairwise a9n
  | [], _ => List.pairwise_singleton _ _
  | a :: t, h => by
    obtain ⟨h1, h2⟩ := List.pairwise_cons.1 h
    unfold b2m
    split
    . rename_i hc
      refine List.pairwise_cons.2 ⟨fun u hu => ?_, c37 h2⟩
      rcases b39 hu with h | h
      . exact h1 u h
      . rw [h]; exact hc
    . rename_i hn
      split
      . rename_i hc
        refine List.pairwise_cons.2 ⟨fun u hu => ?_, h⟩
        rcases List.mem_cons.1 hu with h | h
        . rw [h]; exact hc
        . exact b64 hc (h1 u h)
      . rename_i hm
        refine List.pairwise_cons.2 ⟨fun u hu => ?_, h2⟩
        have := h1 u hu
        split
        . unfold a9n at *; omega
        . exact this
theorem b8b {f : api_Fact} {q : List api_Fact} : ∀ {p : List api_Fact}, (∀ u ∈ p, a9n u f) -> b2m (p ++ q) f = p ++ b2m q f
  | [], _ => rfl
  | a :: p, h => by
    rw [List.cons_append, List.cons_append, <- b8b (p := p) fun u hu => h u (List.mem_cons_of_mem _ hu)]
    show (if a9n a f then _ else _) = _
    rw [if_pos (h a (List.mem_cons_self ..))]
theorem d51 {f : api_Fact} {q : List api_Fact} (h : ∀ u ∈ q, a9n f u) : b2m q f = f :: q := by
  cases q with
  | nil => rfl
  | cons a t =>
    have := h a (List.mem_cons_self ..)
    unfold b2m
    rw [if_neg (by unfold a9n at *; omega), if_pos this]
theorem d5c {f a : api_Fact} {q : List api_Fact} (h1 : a.Issuer = f.Issuer) (h2 : a.Number = f.Number) : b2m (a :: q) f = (if b91 a f = true then f else a) :: q := by
  unfold b2m
  rw [if_neg (by unfold a9n; omega), if_neg (by unfold a9n; omega)]
def c0t (l : List api_Fact) : List api_Fact := (l.filter vld).foldl b2m []
theorem b6a : ∀ (l out : List api_Fact), (∀ u ∈ l, vld u = true) -> (∀ u ∈ out, vld u = true) -> out.Pairwise a9n -> (∀ u ∈ l.foldl b2m out, vld u = true) /\ (l.foldl b2m out).Pairwise a9n /\ (l.foldl b2m out).length <= out.length + l.length
  | [], out, _, h2, h3 => ⟨h2, h3, by simp⟩
  | f :: l, out, h1, h2, h3 => by
    have := b6a l (b2m out f) (fun u hu => h1 u (List.mem_cons_of_mem _ hu)) (fun u hu => (b39 hu).elim (h2 u) (fun e => e ▸ h1 f (List.mem_cons_self ..))) (c37 h3)
    have hl := c2o f out
    refine ⟨this.1, this.2.1, ?_⟩
    have := this.2.2
    simp only [List.foldl_cons, List.length_cons] at this ⊢; omega
theorem c96 (l : List api_Fact) : (∀ u ∈ c0t l, vld u = true) /\ (c0t l).Pairwise a9n /\ (c0t l).length <= l.length := by
  have := b6a (l.filter vld) [] (fun u hu => (List.mem_filter.1 hu).2) (fun u h => (by cases h)) .nil
  refine ⟨this.1, this.2.1, ?_⟩
  have h2 := List.length_filter_le vld l
  have := this.2.2
  simp only [List.length_nil] at this
  unfold c0t; omega
theorem c7i (l : List api_Fact) (y : api_Fact) : c0t (l ++ [y]) = if vld y = true then b2m (c0t l) y else c0t l := by
  unfold c0t
  rw [List.filter_append, List.foldl_append]
  cases h : vld y <;> simp [h]
end Go.PL
namespace Go.PL
open Go Go.SX
theorem d9g {a b : api_Fact} (ha : vld a = true) (hb : vld b = true) : ∃ c, a0j a b = some c /\ (0 < c ↔ a9n b a) /\ (c = 0 ↔ a.Issuer = b.Issuer /\ a.Number = b.Number) := by
  have va := a87 ha
  have vb := a87 hb
  unfold a0j
  by_cases h : a.Issuer = b.Issuer
  . rw [if_neg (by simp [h]), l7 (by omega) (by omega)]
    refine ⟨_, rfl, ?_, ?_⟩
    . unfold a9n; omega
    . omega
  . rw [if_pos (by simpa using h), l7 (by omega) (by omega)]
    refine ⟨_, rfl, ?_, ?_⟩
    . unfold a9n; omega
    . omega
set_option maxHeartbeats 1000000 in
theorem insR (a0 a1 : List api_Fact) (x : List api_Fact) (x2 : Int) (rec : ((List api_Fact) × Int) -> Option (List api_Fact)) (v : api_Fact) (hv : vld v = true) (hx : ∀ u ∈ x, vld u = true) (hs : x.Pairwise a9n) (hl : x.length <= 2 ^ 20) :
    j6 FU (a0y rec (a0, a1, x, x2, v)) (x, v, (x.length : Int)) = rec (b2m x v, i64 (x2 + 1)) := by
  refine b0t (f := a0y rec (a0, a1, x, x2, v)) (fun st => ∃ k : Nat, st = (x, v, (k : Int)) /\ k <= x.length /\ ∀ u ∈ x.drop k, a9n v u) (fun st => st.2.2.toNat) (fun o => o = rec (b2m x v, i64 (x2 + 1))) ⟨x.length, rfl, Nat.le_refl _, by simp⟩ (by simp only [Int.toNat_natCast]; omega) ?_
  rintro st rec2 ⟨k, rfl, hk, hd⟩
  unfold a0y
  dsimp only
  have put : (∀ u ∈ x.take k, a9n u v) -> (Option.bind (a3a x 0 (k : Int)) fun s => Option.bind (a6y 112 [] s) fun l => Option.bind (a6y 112 l [v]) fun l2 => Option.bind (a3a x (k : Int) (x.length : Int)) fun s2 => Option.bind (a6y 112 l2 s2) fun l3 => rec (l3, i64 (x2 + 1))) = rec (b2m x v, i64 (x2 + 1)) := by
    intro hlo
    have ed : (x.drop k).take (x.length - k) = x.drop k := List.take_of_length_le (by simp)
    have ei : b2m x v = x.take k ++ v :: x.drop k := by
      have := b8b (p := x.take k) (q := x.drop k) hlo
      rw [List.take_append_drop, d51 hd] at this
      exact this
    rw [c06 (by omega) (by omega) (by omega), Option.bind_some, a6p (by simp; omega), Option.bind_some, a6p (by simp; omega), Option.bind_some, c06 (by omega) (by omega) (by omega), Option.bind_some, a6p (by simp; omega), Option.bind_some, ei]
    simp only [Int.toNat_natCast, List.nil_append, Int.toNat_zero, Nat.sub_zero, List.drop_zero]
    rw [ed]
    simp
  cases k with
  | zero =>
    left
    rw [if_neg (by simp), Option.bind_some, if_neg (by simp), if_neg (by simp), Option.bind_some, if_neg (by simp)]
    exact put (by simp)
  | succ k =>
    obtain ⟨y, e⟩ : ∃ y, x[k]? = some y := ⟨_, List.getElem?_eq_getElem (by omega)⟩
    have ei : i64 (((k + 1 : Nat) : Int) - 1) = (k : Int) := by rw [l7 (by omega) (by omega)]; omega
    have hyv := hx y (List.mem_of_getElem? e)
    obtain ⟨c, hc, c1, c2⟩ := d9g hyv hv
    have hlow : ∀ u ∈ x.take k, a9n u y := by
      have := hs.sublist (List.take_sublist (k + 1) x)
      rw [b02 e, List.pairwise_append] at this
      exact fun u hu => this.2.2 u hu y (List.mem_singleton.2 rfl)
    rw [if_pos (by simp), if_pos (by simp), ei, a6q e]
    simp only [Option.bind_some]
    rw [hc]
    simp only [Option.bind_some]
    by_cases h1 : 0 < c
    . right
      rw [if_pos (by simpa using h1)]
      refine ⟨_, rfl, ⟨k, rfl, by omega, fun u hu => ?_⟩, by simp only [Int.toNat_natCast]; omega⟩
      rw [b7f e] at hu
      rcases List.mem_cons.1 hu with h | h
      . rw [h]; exact c1.1 h1
      . exact hd u h
    . left
      rw [if_neg (by simpa using h1)]
      by_cases h2 : c = 0
      . rw [if_pos (by simpa using h2)]
        obtain ⟨i1, i2⟩ := c2.1 h2
        rw [d1z hyv hv i1 i2, Option.bind_some]
        have hlo : ∀ u ∈ x.take k, a9n u v := fun u hu => by have := hlow u hu; unfold a9n at *; omega
        have ex : x = x.take k ++ y :: x.drop (k + 1) := by
          have := (List.take_append_drop k x).symm
          rwa [b7f e] at this
        have ei : b2m x v = x.take k ++ (if b91 y v = true then v else y) :: x.drop (k + 1) := by
          have := b8b (p := x.take k) (q := y :: x.drop (k + 1)) hlo
          rw [<- ex, d5c i1 i2] at this
          exact this
        cases hb : b91 y v with
        | true =>
          rw [if_pos rfl, ei, hb, if_pos rfl]
          congr 2
          unfold b01
          rw [if_pos (Int.natCast_nonneg _), Int.toNat_natCast]
          have hk' : (x.take k).length = k := by rw [List.length_take]; omega
          rw [List.set_eq_take_append_cons_drop, if_pos (by omega)]
        | false =>
          rw [if_neg (by simp), ei, hb, if_neg (by simp), <- ex]
      . rw [if_neg (by simpa using h2)]
        refine put fun u hu => ?_
        have hyl : a9n y v := by
          have n1 : ¬ a9n v y := fun h => h1 (c1.2 h)
          have n2 : ¬ (y.Issuer = v.Issuer /\ y.Number = v.Number) := fun h => h2 (c2.2 h)
          unfold a9n at *; omega
        rw [b02 e] at hu
        rcases List.mem_append.1 hu with h | h
        . exact b64 (hlow u h) hyl
        . rw [List.mem_singleton] at h; rw [h]; exact hyl
theorem c6y (l : List api_Fact) (hl : l.length <= 2 ^ 20) : a24 l [] = some (c0t l) := by
  unfold a24
  refine a3w (f := a0w l []) l (fun s i => (s, i)) (fun s i => s = c0t (l.take i)) (fun o => o = some (c0t l)) (by omega) ?_ ?_ [] (by simp [c0t])
  . rintro rec s i y hi hy rfl
    right
    refine ⟨_, ?_, rfl⟩
    have ho := c96 (l.take i)
    rw [List.length_take] at ho
    unfold a0w
    dsimp only
    rw [List.length_nil, l7 (by omega) (by omega), if_pos (by simp; omega), if_pos (by simp; omega), a6q hy, Option.bind_some, b0m]
    unfold a2g
    dsimp only
    rw [a7r, Option.bind_some, b02 hy, c7i]
    cases hv : vld y with
    | false => rw [if_pos (by rfl), if_neg (by simp), a57 (by omega)]
    | true => rw [if_neg (by simp), if_pos rfl, insR _ _ _ _ _ _ hv ho.1 ho.2.1 (by omega), a57 (by omega)]
  . rintro rec s rfl
    unfold a0w
    dsimp only
    rw [List.length_nil, l7 (by omega) (by omega), if_neg (by simp), List.take_length]
end Go.PL
namespace Go.PL
open Go Go.Sort
def InS (l : List Span) (x : Int) : Prop := ∃ s ∈ l, s.From <= x /\ x < s.To
theorem a7l {x : Int} : ¬ InS [] x := by rintro ⟨s, h, _⟩; cases h
theorem a6e {a b : List Span} {x : Int} : InS (a ++ b) x ↔ InS a x \/ InS b x := by
  constructor
  . rintro ⟨s, h, h1⟩
    rcases List.mem_append.1 h with h | h
    . exact .inl ⟨s, h, h1⟩
    . exact .inr ⟨s, h, h1⟩
  . rintro (⟨s, h, h1⟩ | ⟨s, h, h1⟩)
    . exact ⟨s, List.mem_append_left _ h, h1⟩
    . exact ⟨s, List.mem_append_right _ h, h1⟩
theorem a85 {s : Span} {x : Int} : InS [s] x ↔ s.From <= x /\ x < s.To := by
  constructor
  . rintro ⟨t, h, h1⟩; rw [List.mem_singleton] at h; subst h; exact h1
  . intro h; exact ⟨s, List.mem_singleton.2 rfl, h⟩
theorem a0s {s : Span} {b : List Span} {x : Int} : InS (s :: b) x ↔ (s.From <= x /\ x < s.To) \/ InS b x := by
  have := @a6e [s] b x
  rw [a85] at this; exact this
theorem d1f {a b : List Span} (h : a.Perm b) {x : Int} : InS a x ↔ InS b x := by
  constructor
  . rintro ⟨s, hs, h1⟩; exact ⟨s, h.mem_iff.1 hs, h1⟩
  . rintro ⟨s, hs, h1⟩; exact ⟨s, h.mem_iff.2 hs, h1⟩
def Nrm (l : List Span) : Prop := (∀ s ∈ l, 0 <= s.From /\ s.From < s.To /\ s.To <= 73049) /\ l.Pairwise (fun a b => a.To < b.From)
theorem b7j : Nrm [] := ⟨fun _ h => (by cases h), List.Pairwise.nil⟩
theorem b0v {a : List Span} {s : Span} : Nrm (a ++ [s]) ↔ Nrm a /\ (∀ t ∈ a, t.To < s.From) /\ 0 <= s.From /\ s.From < s.To /\ s.To <= 73049 := by
  unfold Nrm
  rw [List.pairwise_append]
  constructor
  . rintro ⟨h1, h2, h3, h4⟩
    exact ⟨⟨fun t ht => h1 t (List.mem_append_left _ ht), h2⟩, fun t ht => h4 t ht s (List.mem_singleton.2 rfl), h1 s (List.mem_append_right _ (List.mem_singleton.2 rfl))⟩
  . rintro ⟨⟨h1, h2⟩, h3, h4⟩
    refine ⟨fun t ht => ?_, h2, List.pairwise_singleton _ _, fun t ht u hu => ?_⟩
    . rcases List.mem_append.1 ht with h | h
      . exact h1 t h
      . rw [List.mem_singleton] at h; subst h; exact h4
    . rw [List.mem_singleton] at hu; subst hu; exact h3 t ht
theorem a7y {a : List Span} {s : Span} : Nrm (s :: a) ↔ Nrm a /\ (∀ t ∈ a, s.To < t.From) /\ 0 <= s.From /\ s.From < s.To /\ s.To <= 73049 := by
  unfold Nrm
  rw [List.pairwise_cons]
  constructor
  . rintro ⟨h1, h2, h3⟩
    exact ⟨⟨fun t ht => h1 t (List.mem_cons_of_mem _ ht), h3⟩, h2, h1 s (List.mem_cons_self ..)⟩
  . rintro ⟨⟨h1, h2⟩, h3, h4⟩
    refine ⟨fun t ht => ?_, h3, h2⟩
    rcases List.mem_cons.1 ht with h | h
    . subst h; exact h4
    . exact h1 t h
theorem c41 : ∀ {a b : List Span}, Nrm a -> Nrm b -> (∀ x, InS a x ↔ InS b x) -> a = b
  | [], [], _, _, _ => rfl
  | [], s :: b, _, hb, h => by
    have := (a7y.1 hb).2.2
    exact absurd ((h s.From).2 (a0s.2 (.inl ⟨Int.le_refl _, this.2.1⟩))) a7l
  | s :: a, [], ha, _, h => by
    have := (a7y.1 ha).2.2
    exact absurd ((h s.From).1 (a0s.2 (.inl ⟨Int.le_refl _, this.2.1⟩))) a7l
  | s :: a, t :: b, ha, hb, h => by
    obtain ⟨ha1, ha2, ha3⟩ := a7y.1 ha
    obtain ⟨hb1, hb2, hb3⟩ := a7y.1 hb
    have low : ∀ {c : List Span} {u : Span}, (∀ t ∈ c, u.To < t.From) -> ∀ {x}, InS c x -> u.To < x := by
      rintro c u hc x ⟨v, hv, h1⟩; have := hc v hv; omega
    have f1 : t.From <= s.From := by
      rcases a0s.1 ((h s.From).1 (a0s.2 (.inl ⟨Int.le_refl _, ha3.2.1⟩))) with h1 | h1
      . exact h1.1
      . have := low hb2 h1; omega
    have f2 : s.From <= t.From := by
      rcases a0s.1 ((h t.From).2 (a0s.2 (.inl ⟨Int.le_refl _, hb3.2.1⟩))) with h1 | h1
      . exact h1.1
      . have := low ha2 h1; omega
    have t1 : ¬ s.To < t.To := by
      intro h1
      rcases a0s.1 ((h s.To).2 (a0s.2 (.inl ⟨by omega, h1⟩))) with h2 | h2
      . omega
      . have := low ha2 h2; omega
    have t2 : ¬ t.To < s.To := by
      intro h1
      rcases a0s.1 ((h t.To).1 (a0s.2 (.inl ⟨by omega, h1⟩))) with h2 | h2
      . omega
      . have := low hb2 h2; omega
    have hst : s = t := by cases s; cases t; simp only [Mk.Span.mk.injEq] at *; omega
    subst hst
    congr 1
    refine c41 ha1 hb1 fun x => ?_
    constructor
    . intro hx
      have := low ha2 hx
      rcases a0s.1 ((h x).1 (a0s.2 (.inr hx))) with h2 | h2
      . omega
      . exact h2
    . intro hx
      have := low hb2 hx
      rcases a0s.1 ((h x).2 (a0s.2 (.inr hx))) with h2 | h2
      . omega
      . exact h2
theorem d6v : SWO (fun x y : Span => decide (x.From < y.From)) := by
  constructor
  . intro x; simp
  . intro x y z; simp only [decide_eq_true_eq]; omega
  . intro x y z; simp only [decide_eq_false_iff_not]; omega
theorem c79 (l : List Span) (h : l.length < 4611686018427387904) : ∃ r, Mk.sort_Slice_120 l = some r /\ r.Perm l /\ r.Pairwise (fun a b => a.From <= b.From) := by
  unfold Mk.sort_Slice_120 c9f
  by_cases h1 : l.length <= 1
  . rw [if_pos h1]
    refine ⟨l, rfl, .refl _, ?_⟩
    match l, h1 with
    | [], _ => exact .nil
    | [x], _ => exact List.pairwise_singleton _ _
  . rw [if_neg h1, if_pos h]
    have hp := pdq_sorts (fun x y : Span => decide (x.From < y.From)) d6v l.toArray 0 l.toArray.size (Lib.bitLen l.toArray.size) true true (Nat.zero_le _) (Nat.le_refl _) (Or.inl rfl)
    rw [List.size_toArray] at hp
    generalize pdq (fun x y : Span => decide (x.From < y.From)) l.toArray 0 l.length (Lib.bitLen l.length) true true = d at hp ⊢
    obtain ⟨⟨p1, p2, p3⟩, p4⟩ := hp
    have p1' : d.size = l.length := by simpa using p1
    have e1 : d.extract 0 l.length = d := by rw [<- p1']; simp
    have e2 : l.toArray.extract 0 l.length = l.toArray := by simp
    rw [e1, e2] at p3
    refine ⟨d.toList, rfl, by simpa using p3, ?_⟩
    rw [List.pairwise_iff_getElem]
    intro i j hi hj hij
    have := p4 i j (Nat.zero_le _) hij (by simpa [p1'] using hj)
    have hi' : i < d.size := by simpa using hi
    have hj' : j < d.size := by simpa using hj
    simp only [decide_eq_false_iff_not] at this
    rw [getElem!_pos d j hj', getElem!_pos d i hi'] at this
    simp only [Array.getElem_toList]; omega
set_option maxHeartbeats 1000000 in
theorem c4w (l : List Span) (hl : l.length <= 2 ^ 40) (hs : l.Pairwise (fun a b => a.From <= b.From)) (hr : ∀ s ∈ l, 0 <= s.From /\ s.From < s.To /\ s.To <= 73049) (Q : Option (List Span) -> Prop)
    (hQ : ∀ r, Nrm r -> (∀ x, InS r x ↔ InS l x) -> r.length <= l.length -> Q (some r)) : Q (j6 FU (Mk.spans_Make_l2 l) ([], 0)) := by
  refine a3w (f := Mk.spans_Make_l2 l) l (fun s i => (s, i)) (fun s i => Nrm s /\ (∀ x, InS s x ↔ InS (l.take i) x) /\ s.length <= i /\ ∀ t ∈ s, ∃ u ∈ l.take i, u.From = t.From) Q (by omega) ?_ ?_ [] ⟨b7j, fun x => by simp, Nat.le_refl _, fun t h => by cases h⟩
  . rintro rec s i y hi hy ⟨h1, h2, h3, h4⟩
    right
    have hyl : y ∈ l := List.mem_of_getElem? hy
    have hyr := hr y hyl
    unfold Mk.spans_Make_l2 Mk.spans_Make_j2
    dsimp only
    rw [if_pos (by simp; omega), a6q hy, Option.bind_some, a57 (by omega), b02 hy]
    have hord : ∀ u ∈ l.take i, u.From <= y.From := by
      intro u hu
      have hi' := List.getElem?_eq_getElem hi
      rw [hy] at hi'
      have e : l = l.take i ++ l.drop i := (List.take_append_drop i l).symm
      rw [e, List.pairwise_append] at hs
      refine hs.2.2 u hu y ?_
      rw [Option.some.inj hi', List.drop_eq_getElem_cons hi]; exact List.mem_cons_self ..
    rcases ends s with rfl | ⟨a, t, rfl⟩
    . simp only [List.length_nil, Int.natCast_zero, Int.lt_irrefl, decide_false, Bool.false_eq_true, if_false, Option.bind_some]
      rw [a6p (by simp), Option.bind_some]
      refine ⟨[y], rfl, ?_, fun x => ?_, by simp, ?_⟩
      . have := b0v (a := []) (s := y); simp only [List.nil_append] at this; rw [this]; exact ⟨b7j, fun t h => (by cases h), hyr⟩
      . have := h2 x
        rw [a6e, <- this]; simp [a7l]
      . intro t ht; rw [List.mem_singleton] at ht; subst ht; exact ⟨t, by simp, rfl⟩
    . obtain ⟨n1, n2, n3⟩ := b0v.1 h1
      have hlen : a.length < 2 ^ 62 := by rw [List.length_append] at h3; simp at h3; omega
      have htf : t.From <= y.From := by
        obtain ⟨u, hu, he⟩ := h4 t (by simp)
        have := hord u hu; omega
      rw [if_pos (by rw [List.length_append]; simp), d3y a t hlen, Option.bind_some, Option.bind_some]
      by_cases hc : y.From <= t.To
      . rw [if_pos (by simpa using hc), Option.bind_some, Option.bind_some, d1u a t _ hlen]
        refine ⟨a ++ [(⟨t.From, max t.To y.To⟩ : Span)], rfl, ?_, fun x => ?_, by simp at h3 ⊢; omega, ?_⟩
        . rw [b0v]; exact ⟨n1, n2, by dsimp only; omega, by dsimp only; omega, by dsimp only; omega⟩
        . have := h2 x
          rw [a6e, a85] at this
          rw [a6e, a6e, <- this, a85, a85]
          dsimp only
          by_cases hax : InS a x
          . simp [hax]
          . simp only [hax, false_or]; omega
        . intro v hv
          rcases List.mem_append.1 hv with hv | hv
          . obtain ⟨u, hu, he⟩ := h4 v (List.mem_append_left _ hv); exact ⟨u, List.mem_append_left _ hu, he⟩
          . rw [List.mem_singleton] at hv; subst hv
            obtain ⟨u, hu, he⟩ := h4 t (by simp); exact ⟨u, List.mem_append_left _ hu, he⟩
      . rw [if_neg (by simpa using hc), a6p (by simp at h3 ⊢; omega), Option.bind_some]
        refine ⟨a ++ [t] ++ [y], rfl, ?_, fun x => ?_, by simp at h3 ⊢; omega, ?_⟩
        . rw [b0v]
          refine ⟨h1, fun v hv => ?_, hyr⟩
          rcases List.mem_append.1 hv with hv | hv
          . have := n2 v hv; omega
          . rw [List.mem_singleton] at hv; subst hv; omega
        . have := h2 x
          rw [a6e (a := a ++ [t]), a6e (a := l.take i), this]
        . intro v hv
          rcases List.mem_append.1 hv with hv | hv
          . obtain ⟨u, hu, he⟩ := h4 v hv; exact ⟨u, List.mem_append_left _ hu, he⟩
          . rw [List.mem_singleton] at hv; subst hv
            exact ⟨v, by simp, rfl⟩
  . rintro rec s ⟨h1, h2, h3, _⟩
    rw [List.take_length] at h2
    unfold Mk.spans_Make_l2
    dsimp only
    rw [if_neg (by simp)]
    exact hQ s h1 h2 h3
set_option maxHeartbeats 1000000 in
theorem b40 (d : List Span) (hd : d.length <= 2 ^ 40) : ∃ r, spans_Make d = some r /\ Nrm r /\ (∀ x, InS r x ↔ InS d x /\ 0 <= x /\ x < 73049) /\ r.length <= d.length := by
  show ∃ r, Mk.spans_Make d = some r /\ _
  unfold Mk.spans_Make
  refine a3w (f := Mk.spans_Make_l d) d (fun s i => (i, s)) (fun s i => (∀ u ∈ s, 0 <= u.From /\ u.From < u.To /\ u.To <= 73049) /\ (∀ x, InS s x ↔ InS (d.take i) x /\ 0 <= x /\ x < 73049) /\ s.length <= i)
    (fun o => ∃ r, o = some r /\ Nrm r /\ (∀ x, InS r x ↔ InS d x /\ 0 <= x /\ x < 73049) /\ r.length <= d.length) (by omega) ?_ ?_ [] ⟨fun u h => (by cases h), fun x => by simp [a7l], Nat.le_refl _⟩
  . rintro rec s i y hi hy ⟨h1, h2, h3⟩
    right
    unfold Mk.spans_Make_l Mk.spans_Make_j Mk.spans_clamp
    dsimp only
    rw [if_pos (by simp; omega), a6q hy, Option.bind_some, a57 (by omega), Option.bind_some, b02 hy]
    dsimp only
    by_cases hc : max y.From 0 < min y.To 73049
    . rw [if_pos (by simpa using hc), a6p (by simp; omega), Option.bind_some]
      refine ⟨s ++ [(⟨max y.From 0, min y.To 73049⟩ : Span)], rfl, fun u hu => ?_, fun x => ?_, by simp; omega⟩
      . rcases List.mem_append.1 hu with hu | hu
        . exact h1 u hu
        . rw [List.mem_singleton] at hu; subst hu; dsimp only; omega
      . rw [a6e, a6e, h2 x, a85, a85]
        dsimp only
        by_cases hax : InS (d.take i) x
        . simp only [hax, true_and, true_or]; omega
        . simp only [hax, false_and, false_or]; omega
    . rw [if_neg (by simpa using hc)]
      refine ⟨s, rfl, h1, fun x => ?_, by omega⟩
      rw [a6e, h2 x, a85]
      by_cases hax : InS (d.take i) x
      . simp only [hax, true_and, true_or]
      . simp only [hax, false_and, false_or]
        refine ⟨fun h => h.elim, fun h => ?_⟩
        omega
  . rintro rec s ⟨h1, h2, h3⟩
    rw [List.take_length] at h2
    unfold Mk.spans_Make_l
    dsimp only
    rw [if_neg (by simp)]
    obtain ⟨q, e, hp, hq⟩ := c79 s (by omega)
    rw [e, Option.bind_some]
    have hql := hp.length_eq
    refine c4w q (by omega) hq (fun u hu => h1 u (hp.mem_iff.1 hu)) (fun o => ∃ r, o = some r /\ Nrm r /\ (∀ x, InS r x ↔ InS d x /\ 0 <= x /\ x < 73049) /\ r.length <= d.length) fun r a b c => ⟨r, rfl, a, fun x => ?_, by omega⟩
    rw [b x, d1f hp, h2 x]
end Go.PL
namespace Go.PL
open Go Go.Sort
theorem c3p {l : List Span} (h : Nrm l) (i : Nat) : Nrm (l.drop i) := ⟨fun s hs => h.1 s (List.mem_of_mem_drop hs), h.2.sublist (List.drop_sublist i l)⟩
theorem b9t {l : List Span} {s : Span} (h : Nrm (s :: l)) {x : Int} (hx : InS l x) : s.To < x := by
  obtain ⟨v, hv, h1⟩ := hx
  have := (a7y.1 h).2.1 v hv
  omega
set_option maxHeartbeats 2000000 in
theorem b5v (a b : List Span) (ha : a.length <= 2 ^ 40) (hb : b.length <= 2 ^ 40) :
    ∃ r, a4g a b = some r /\ Nrm r /\ ∀ x, InS r x ↔ InS a x /\ InS b x /\ 0 <= x /\ x < 73049 := by
  obtain ⟨z, hz, nz, mz, lz⟩ := b40 a ha
  obtain ⟨w, hw, nw, mw, lw⟩ := b40 b hb
  unfold a4g
  rw [hz, Option.bind_some, hw, Option.bind_some]
  refine b80 (f := a3y)
    (fun st => ∃ (x : List Span) (i j : Nat), st = (z, w, x, (i : Int), (j : Int)) /\ i <= z.length /\ j <= w.length /\ Nrm x /\ (∀ d, InS x d -> InS z d /\ InS w d) /\ (∀ d, InS z d -> InS w d -> InS x d \/ (InS (z.drop i) d /\ InS (w.drop j) d)) /\
      (∀ t ∈ x, ∀ y1 ∈ z.drop i, ∀ y2 ∈ w.drop j, t.To < max y1.From y2.From) /\ x.length <= i + j)
    (fun st => z.length + w.length - st.2.2.2.1.toNat - st.2.2.2.2.toNat) _ ⟨[], 0, 0, rfl, Nat.zero_le _, Nat.zero_le _, b7j, fun d h => absurd h a7l, fun d h1 h2 => .inr (by simpa using ⟨h1, h2⟩), fun t h => (by cases h), Nat.zero_le _⟩ (by dsimp only; omega) ?_
  rintro st rec ⟨x, i, j, rfl, hi, hj, n, m1, m2, m3, hl⟩
  unfold a3y
  dsimp only
  rw [a07, Option.bind_some]
  by_cases hc : i < z.length /\ j < w.length
  . right
    obtain ⟨hi', hj'⟩ := hc
    rw [if_pos (by simp; omega)]
    obtain ⟨y1, e1⟩ : ∃ y1, z[i]? = some y1 := ⟨_, List.getElem?_eq_getElem hi'⟩
    obtain ⟨y2, e2⟩ : ∃ y2, w[j]? = some y2 := ⟨_, List.getElem?_eq_getElem hj'⟩
    have d1 := b7f e1
    have d2 := b7f e2
    have nd1 : Nrm (y1 :: z.drop (i + 1)) := d1 ▸ c3p nz i
    have nd2 : Nrm (y2 :: w.drop (j + 1)) := d2 ▸ c3p nw j
    rw [d1, d2] at m2 m3
    have i1 : InS z = InS z := rfl
    have z1 : ∀ d, y1.From <= d /\ d < y1.To -> InS z d := fun d h => ⟨y1, List.mem_of_getElem? e1, h⟩
    have z2 : ∀ d, y2.From <= d /\ d < y2.To -> InS w d := fun d h => ⟨y2, List.mem_of_getElem? e2, h⟩
    have b1 := (a7y.1 nd1).2
    have b2 := (a7y.1 nd2).2
    have next : ∀ x' : List Span, Nrm x' -> (∀ d, InS x' d ↔ InS x d \/ ((y1.From <= d /\ d < y1.To) /\ (y2.From <= d /\ d < y2.To))) -> (∀ t ∈ x', t ∈ x \/ t.To = min y1.To y2.To) -> x'.length <= i + j + 1 ->
        ∃ s', Go.SX.joinC (a2a rec) (z, w, x', (i : Int), (j : Int)) = rec s' /\ (∃ (x : List Span) (i j : Nat), s' = (z, w, x, (i : Int), (j : Int)) /\ i <= z.length /\ j <= w.length /\ Nrm x /\ (∀ d, InS x d -> InS z d /\ InS w d) /\ (∀ d, InS z d -> InS w d -> InS x d \/ (InS (z.drop i) d /\ InS (w.drop j) d)) /\
          (∀ t ∈ x, ∀ y1 ∈ z.drop i, ∀ y2 ∈ w.drop j, t.To < max y1.From y2.From) /\ x.length <= i + j) /\ z.length + w.length - s'.2.2.2.1.toNat - s'.2.2.2.2.toNat < z.length + w.length - (i : Int).toNat - (j : Int).toNat := by
      intro x' n' q1 q2 q3
      rw [b0m]; unfold a2a; dsimp only
      simp only [a6q e1, a6q e2, Option.bind_some]
      rw [a57 (by omega), a57 (by omega)]
      have q4 : ∀ d, InS x' d -> InS z d /\ InS w d := by
        intro d hd
        rcases (q1 d).1 hd with h | h
        . exact m1 d h
        . exact ⟨z1 d h.1, z2 d h.2⟩
      by_cases hlt : y1.To < y2.To
      . rw [if_pos (by simpa using hlt)]
        refine ⟨_, rfl, ⟨x', i + 1, j, rfl, by omega, by omega, n', q4, fun d h1 h2 => ?_, fun t ht v1 hv1 v2 hv2 => ?_, by omega⟩, by simp only [Int.toNat_natCast]; omega⟩
        . rcases m2 d h1 h2 with h | ⟨h, h'⟩
          . exact .inl ((q1 d).2 (.inl h))
          . rcases a0s.1 h with g | g
            . rcases a0s.1 h' with g' | g'
              . exact .inl ((q1 d).2 (.inr ⟨g, g'⟩))
              . have := b9t nd2 g'; omega
            . right; rw [d2]; exact ⟨g, h'⟩
        . rw [d2] at hv2
          rcases q2 t ht with h | h
          . exact m3 t h v1 (List.mem_cons_of_mem _ hv1) v2 hv2
          . have := b1.1 v1 hv1; omega
      . rw [if_neg (by simpa using hlt)]
        refine ⟨_, rfl, ⟨x', i, j + 1, rfl, by omega, by omega, n', q4, fun d h1 h2 => ?_, fun t ht v1 hv1 v2 hv2 => ?_, by omega⟩, by simp only [Int.toNat_natCast]; omega⟩
        . rcases m2 d h1 h2 with h | ⟨h, h'⟩
          . exact .inl ((q1 d).2 (.inl h))
          . rcases a0s.1 h' with g' | g'
            . rcases a0s.1 h with g | g
              . exact .inl ((q1 d).2 (.inr ⟨g, g'⟩))
              . have := b9t nd1 g; omega
            . right; rw [d1]; exact ⟨h, g'⟩
        . rw [d1] at hv1
          rcases q2 t ht with h | h
          . exact m3 t h v1 hv1 v2 (List.mem_cons_of_mem _ hv2)
          . have := b2.1 v2 hv2; omega
    simp only [a6q e1, a6q e2, Option.bind_some]
    by_cases ho : max y1.From y2.From < min y1.To y2.To
    . rw [if_pos (by simpa using ho), a6p (by simp; omega), Option.bind_some]
      refine next _ (b0v.2 ⟨n, fun t ht => m3 t ht y1 (List.mem_cons_self ..) y2 (List.mem_cons_self ..), by dsimp only; omega, by dsimp only; omega, by dsimp only; omega⟩) (fun d => ?_) (fun t ht => ?_) (by simp; omega)
      . rw [a6e, a85]; dsimp only
        by_cases hx : InS x d
        . simp [hx]
        . simp only [hx, false_or]; omega
      . rcases List.mem_append.1 ht with h | h
        . exact .inl h
        . rw [List.mem_singleton] at h; subst h; exact .inr rfl
    . rw [if_neg (by simpa using ho)]
      refine next _ n (fun d => ?_) (fun t ht => .inl ht) (by omega)
      by_cases hx : InS x d
      . simp [hx]
      . simp only [hx, false_or]
        refine ⟨fun h => h.elim, fun h => ?_⟩
        omega
  . left
    rw [if_neg (by simp; omega)]
    refine ⟨x, rfl, n, fun d => ?_⟩
    have : InS x d ↔ InS z d /\ InS w d := by
      refine ⟨m1 d, fun h => ?_⟩
      rcases m2 d h.1 h.2 with h | ⟨h1, h2⟩
      . exact h
      . exfalso
        by_cases hi' : i < z.length
        . rw [List.drop_eq_nil_of_le (by omega)] at h2; exact a7l h2
        . rw [List.drop_eq_nil_of_le (by omega)] at h1; exact a7l h1
    rw [this, mz, mw]
    constructor
    . rintro ⟨⟨h1, h2, h3⟩, h4, _⟩; exact ⟨h1, h4, h2, h3⟩
    . rintro ⟨h1, h4, h2, h3⟩; exact ⟨⟨h1, h2, h3⟩, h4, h2, h3⟩
theorem c7w (a : List Span) (s : Span) (ha : a.length <= 2 ^ 40) :
    ∃ r, a50 a s = some r /\ Nrm r /\ ∀ x, InS r x ↔ InS a x /\ (s.From <= x /\ x < s.To) /\ 0 <= x /\ x < 73049 := by
  obtain ⟨r, h1, h2, h3⟩ := b5v a [s] ha (by simp)
  refine ⟨r, by unfold a50; rw [h1]; rfl, h2, fun x => ?_⟩
  rw [h3, a85]
end Go.PL
namespace Go.PL
open Go Go.SX
theorem d3g {n m : Int} (h0 : 0 < m) (h1 : m <= 4611686018427387904) : b7 n m = some (n % m) := by
  unfold b7
  rw [b46 (by omega), Option.bind_some]
  have h6 := Int.emod_nonneg n (by omega : m ≠ 0)
  have h7 := Int.emod_lt_of_pos n h0
  have h4 : n.tmod m = n % m \/ n.tmod m = n % m - m := by
    rw [Int.tmod_eq_emod]
    split
    . left; simp
    . right; omega
  by_cases h : n.tmod m < 0
  . rw [if_pos (by simpa using h), l7 (by omega) (by omega)]
    congr 1; omega
  . rw [if_neg (by simpa using h)]
    congr 1; omega
theorem b10 {m : Int} (hm : ¬ (0 <= m /\ m <= 2399)) : a1m m = some (0, false) := by
  unfold a1m a0o
  have e1 : (decide (m >= 0) && decide (m <= 2399)) = false := by
    rw [Bool.and_eq_false_iff, decide_eq_false_iff_not, decide_eq_false_iff_not]; omega
  simp only [a07, Option.bind_some, e1, Bool.not_false, if_true]
end Go.PL
namespace Go.PL
open Go Go.SX
theorem c3o {l : List Span} (h : Nrm l) (h2 : ∀ x, ¬ InS l x) : l = [] := c41 h b7j fun x => ⟨fun q => absurd q (h2 x), fun q => absurd q a7l⟩
theorem c0a : spans_Make [] = some [] := by
  obtain ⟨r, h1, h2, h3, _⟩ := b40 [] (by simp)
  rw [h1, c3o h2 fun x q => a7l ((h3 x).1 q).1]
theorem b9c (s : Span) : a50 [] s = some [] := by
  obtain ⟨r, h1, h2, h3⟩ := c7w [] s (by simp)
  rw [h1, c3o h2 fun x q => a7l ((h3 x).1 q).1]
def c7l (l : List api_Fact) : Prop := ∀ u ∈ l, u.Kind = 8 -> u.Person = 1
theorem a68 {l : List api_Fact} {f : api_Fact} (h : c7l l) (hf : f.Kind = 8 -> f.Person = 1) : c7l (l ++ [f]) := by
  intro u hu
  rcases List.mem_append.1 hu with hu | hu
  . exact h u hu
  . rw [List.mem_singleton] at hu; subst hu; exact hf
theorem c5n {l : List Int} (hl : l.length <= 9223372036854775807) : Tot (a2r l) fun r => r.length = 15 /\ c7l r := by
  unfold a2r
  refine Tot.loop (I := fun v : List api_Fact × Int => 1 <= v.2 /\ v.2 <= 3 /\ (v.1.length : Int) = 6 * (v.2 - 1) /\ c7l v.1) (μ := fun v => (3 - v.2).toNat) ⟨Int.le_refl _, by show (1 : Int) <= 3; omega, rfl, fun u hu => by cases hu⟩ (by show (3 - 1 : Int).toNat < _; omega) ?_
  intro r v hI ih
  obtain ⟨g1, g2, g3, g4⟩ := hI
  unfold a5v
  refine Tot.ite (fun hc => ?_) fun hc => ?_
  . simp at hc
    rw [a4x (by omega) (by omega)]
    repeat' first
      | (refine Tot.bind (n8 _ _ hl) fun _ _ => ?_)
      | (refine Tot.bind (r8 (by omega) (by omega)) fun _ _ => ?_)
      | (refine Tot.bind (a3h (by simp; omega)) fun _ h => ?_; subst h)
    refine ih _ ⟨by show 1 <= v.2 + 1; omega, by show v.2 + 1 <= 3; omega, by simp; omega, ?_⟩ (by show (3 - (v.2 + 1)).toNat < (3 - v.2).toNat; omega)
    exact a68 (a68 (a68 (a68 (a68 (a68 g4 (by simp)) (by simp)) (by simp)) (by simp)) (by simp)) (by simp)
  . simp at hc
    repeat' first
      | (refine Tot.bind (n8 _ _ hl) fun _ _ => ?_)
      | (refine Tot.bind (r8 (by omega) (by omega)) fun _ _ => ?_)
      | (refine Tot.bind (a3h (by simp; omega)) fun _ h => ?_; subst h)
    exact Tot.some ⟨by simp; omega, a68 (a68 (a68 g4 (by simp)) (by simp)) (by simp)⟩
theorem d0b (l : List api_Fact) : ∀ u ∈ c0t l, u ∈ l := by
  have key : ∀ (q acc : List api_Fact) (u : api_Fact), u ∈ q.foldl b2m acc -> u ∈ acc \/ u ∈ q := by
    intro q
    induction q with
    | nil => intro acc u h; exact .inl h
    | cons f q ih =>
      intro acc u h
      rcases ih _ _ h with h | h
      . rcases b39 h with h | h
        . exact .inl h
        . exact .inr (by rw [h]; exact List.mem_cons_self)
      . exact .inr (List.mem_cons_of_mem _ h)
  intro u hu
  rcases key _ _ _ hu with h | h
  . cases h
  . exact (List.mem_filter.1 h).1
def d5v (l : List api_Fact) : Prop := ∀ u ∈ l, u.Kind ≠ 8
theorem d24 {l : List api_Fact} (h : c7l l) : d5v (ofP (c0t l) 2) := by
  intro u hu h8
  unfold ofP at hu
  obtain ⟨h1, h2⟩ := List.mem_filter.1 hu
  have h3 := h u (d0b l u h1) h8
  rw [h3] at h2
  exact absurd h2 (by decide)
theorem c5y {f : List api_Fact} (hl : f.length <= 2 ^ 30) : ∃ s, a86 f = some s := by
  unfold a86 a94 a8q
  rw [c2k f 11 hl, c2k f 12 hl]
  simp only [Option.bind_some, b0m]
  unfold a7i
  split
  . split <;> exact ⟨_, rfl⟩
  . split <;> exact ⟨_, rfl⟩
section
variable {f : List api_Fact} (hf : d5v f) (hl : f.length <= 2 ^ 30)
include hf hl
theorem c46 (st : Int) : a6u f 8 st = some [] := by
  obtain ⟨s, hs⟩ := c5y hl
  unfold a6u
  refine a3w (f := a46 f 8 st) f (fun (_ : Unit) i => ([], i)) (fun _ _ => True) (fun o => o = some []) (by omega) ?_ ?_ () trivial
  . rintro rec _ i y hi hy _
    right
    unfold a46
    dsimp only
    have h8 : (y.Kind == 8) = false := by simpa using hf y (List.mem_of_getElem? hy)
    rw [if_pos (c60 hi)]
    simp only [a6q hy, Option.bind_some, b6m, a07, h8, Bool.and_false, Bool.false_and, Bool.false_eq_true, if_false]
    rw [a57 (by omega)]
    exact ⟨(), rfl, trivial⟩
  . intro rec _ _
    unfold a46
    dsimp only
    rw [if_neg (b1w _), hs, Option.bind_some, b9c, Option.bind_some]
theorem c6q : a2y f = some [] := by
  unfold a2y
  refine b0t (f := a5r f) (fun s => ∃ n : Nat, s = ([], (n : Int)) /\ n <= 6) (fun s => 6 - s.2.toNat) (fun o => o = some []) ⟨0, rfl, by omega⟩ (by show 6 - _ < _; omega) ?_
  rintro s rec ⟨n, rfl, hn⟩
  unfold a5r
  dsimp only
  by_cases h : n < 6
  . right
    rw [if_pos (by simp; omega), c46 hf hl, Option.bind_some, a6p (by simp), Option.bind_some, l7 (by omega) (by omega)]
    exact ⟨_, rfl, ⟨n + 1, by simp, by omega⟩, by simp only [Int.toNat_natCast]; omega⟩
  . left
    rw [if_neg (by simp; omega), c0a, Option.bind_some]
theorem b9y : a1w f = some [] := by
  have hs := c6q hf hl
  have hp : a2i f = some [] := by
    unfold a2i
    rw [hs, Option.bind_some]
    refine a3w (f := a3z []) ([] : List Span) (fun (_ : Unit) i => ([], [], i)) (fun _ _ => True) (fun o => o = some []) (by simp) (fun rec _ i y hi => by simp at hi) (fun rec _ _ => ?_) () trivial
    unfold a3z
    dsimp only
    rw [if_neg (b1w _)]
  unfold a1w
  rw [hs, Option.bind_some, hp, Option.bind_some]
  refine a3w (f := a3r []) ([] : List Span) (fun (_ : Unit) i => ([], (⟨[]⟩ : sickness_window), [], [], [], i)) (fun _ _ => True) (fun o => o = some []) (by simp) (fun rec _ i y hi => by simp at hi) (fun rec _ _ => ?_) () trivial
  unfold a3r
  dsimp only
  rw [if_neg (b1w _), c0a, Option.bind_some]
end
end Go.PL
namespace Go.PL
open Go Go.SX
theorem b50 {m : Int} (hm : ¬ (0 <= m /\ m <= 2399)) : ∃ s, o7 m = some (s, false) := by
  unfold o7 a4a a0o
  have e1 : (decide (m >= 0) && decide (m <= 2399)) = false := by
    rw [Bool.and_eq_false_iff, decide_eq_false_iff_not, decide_eq_false_iff_not]; omega
  rw [b10 hm, Option.bind_some, a07, e1]
  exact ⟨_, rfl⟩
def mOK (o : Option (Span × Bool)) : Bool := match o with | some (_, true) => true | _ => false
theorem d1d : mOK (o7 1160) = true := by kernel_rfl
theorem c52 : ∃ s, o7 1160 = some (s, true) := by
  have h := d1d
  generalize o7 1160 = o at h
  match o, h with
  | some (s, true), _ => exact ⟨s, rfl⟩
section
variable {f : List api_Fact} (hf : d5v f) (hl : f.length <= 2 ^ 30) (x : Laws) (st : Int)
include hf hl
theorem c0r {m : Int} (hm : ∃ s b, o7 m = some (s, b)) : a45 x f st m = some 0 := by
  obtain ⟨s, b, hs⟩ := hm
  unfold a45
  rw [hs, Option.bind_some]
  cases b with
  | false => rfl
  | true =>
    rw [if_neg (by simp), b9y hf hl, Option.bind_some, b9c, Option.bind_some]
    refine a3w (f := a5q []) ([] : List Span) (fun (_ : Unit) i => (x, 0, [], i)) (fun _ _ => True) (fun o => o = some 0) (by simp) (fun rec _ i y hi => by simp at hi) (fun rec _ _ => ?_) () trivial
    unfold a5q
    dsimp only
    rw [if_neg (b1w _)]
theorem c1z {m : Int} (hm : ∃ s, o7 m = some (s, true)) : z7 x f st m = some (0, 0) := by
  obtain ⟨s, hs⟩ := hm
  unfold z7
  rw [hs, Option.bind_some, if_neg (by simp), c0r hf hl x st ⟨s, true, hs⟩, Option.bind_some]; rfl
end
theorem b6n (f : List api_Fact) (x : Laws) (st : Int) {m : Int} (hm : ∃ s, o7 m = some (s, false)) : z7 x f st m = some (0, 1) := by
  obtain ⟨s, hs⟩ := hm
  unfold z7
  rw [hs, Option.bind_some]; rfl
theorem d5e : a48 = some true := by kernel_rfl
theorem a7t (l n : List Int) (st b : Int) (h1 : l.length <= 9223372036854775807) (h2 : n.length <= 9223372036854775807) : s3 l n st b = some true := by
  obtain ⟨x, hx, _⟩ := d1h h1
  obtain ⟨v, hv, v1, v2⟩ := c5n h2
  have hm := (c96 v).2.2
  have hq := d24 v2
  have hl : (ofP (c0t v) 2).length <= 2 ^ 30 := by have := d41 (c0t v) 2; omega
  unfold s3
  have hb : ∀ q, 0 < q -> q <= 4611686018427387904 -> b7 b q = some (b % q) := fun q h h' => d3g h h'
  have k1 : 0 <= b % 1000 /\ b % 1000 < 1000 := by omega
  rw [hx, Option.bind_some, hv, Option.bind_some, c6y _ (by omega), Option.bind_some, d76 _ _ (by omega), Option.bind_some, d3g (by decide) (by decide), Option.bind_some, c1z hq hl _ _ c52, Option.bind_some,
    hb _ (by decide) (by decide), Option.bind_some, l7 (by omega) (by omega), b6n _ _ _ (b50 (by omega)), Option.bind_some, Option.bind_some, l7 (by omega) (by omega), b6n _ _ _ (b50 (by omega)), Option.bind_some, d5e, Option.bind_some]
  obtain ⟨s, hs⟩ := b50 (m := -1) (by omega)
  rw [c0r hq hl _ _ ⟨s, false, hs⟩]
  rfl
end Go.PL
