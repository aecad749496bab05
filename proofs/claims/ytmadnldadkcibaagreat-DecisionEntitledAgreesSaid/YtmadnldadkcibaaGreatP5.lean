/- Texts that the proof stands on: laws of the program logic, the Lean functions of the Go functions, and that the Go functions compute them. -/
import Derived.Test.YtmadnldadkcibaaGreatP4
import Derived.KernelRfl
import Derived.Sort.AssemblyPlain
set_option linter.unusedVariables false
set_option linter.unusedSimpArgs false
set_option maxRecDepth 100000
namespace Go.PL
open Go Go.SX
def ai2 (b : Int) : Bool := decide (b ≥ 97) && decide (b ≤ 122)
def ai5 (b : Int) : Bool := decide (b ≥ 48) && decide (b ≤ 57)
theorem Jq (b : Int) : j7 b = some (ai2 b) := by
  unfold j7 ai2
  rw [bw, Option.bind_some]
theorem H2 (b : Int) : i8 b = some (ai5 b) := by
  unfold i8 ai5
  rw [bw, Option.bind_some]
theorem a6v {s : ByteArray} (hs : s.size ≤ 8000) {a : Int} (h0 : 0 ≤ a) (h1 : a ≤ (s.size : Int)) : Tot (ry s a) fun r => a ≤ r ∧ r ≤ (s.size : Int) := by
  unfold ry
  refine Tot.loop (I := fun v : Int × Bool => a ≤ v.1 ∧ v.1 ≤ (s.size : Int)) (μ := fun v => ((s.size : Int) - v.1).toNat) ⟨Int.le_refl _, h1⟩ (by show ((s.size : Int) - a).toNat < _; omega) ?_
  intro r v hI ih
  obtain ⟨g1, g2⟩ := hI
  have nxt : v.1 < (s.size : Int) → ∀ b : Bool, Tot (r (i64 (v.1 + 1), b)) fun r => a ≤ r ∧ r ≤ (s.size : Int) := fun h b => by
    rw [ss (by omega) (by omega)]
    exact ih (v.1 + 1, b) ⟨by show a ≤ v.1 + 1; omega, by show v.1 + 1 ≤ _; omega⟩ (by show ((s.size : Int) - (v.1 + 1)).toNat < ((s.size : Int) - v.1).toNat; omega)
  unfold ya
  refine Tot.ite (fun h => ?_) fun h => Tot.some ⟨g1, g2⟩
  simp at h
  refine Tot.bind (pf (by omega) h) fun b hb => ?_
  refine Tot.ite (fun _ => nxt h _) fun _ => Tot.ite (fun _ => nxt h _) fun _ => ?_
  simp only [bw, Option.bind_some]
  exact Tot.ite (fun _ => Tot.some ⟨g1, g2⟩) fun _ => nxt h _
theorem a2s {s : ByteArray} (hs : s.size ≤ 8000) {a : Int} (h0 : 0 ≤ a) (h1 : a < (s.size : Int)) {c : Int} (hc : Bd s a = some c) (hld : (ai2 c || ai5 c) = true) (dot : Bool) : Tot (py s a dot) fun r => 1 ≤ r ∧ a + r ≤ (s.size : Int) := by
  unfold py
  refine Tot.loop (I := fun v : Int => 0 ≤ v ∧ a + v ≤ (s.size : Int)) (μ := fun v => ((s.size : Int) - a - v).toNat) ⟨Int.le_refl _, by omega⟩ (by omega) ?_
  intro r v hI ih
  obtain ⟨g1, g2⟩ := hI
  unfold zl
  have e0 : i64 (a + v) = a + v := au (by omega) (by omega)
  rw [e0]
  have hgo : a + v < (s.size : Int) → Tot (r (i64 (v + 1))) fun r => 1 ≤ r ∧ a + r ≤ (s.size : Int) := fun h => by
    rw [ss (by omega) (by omega)]
    exact ih (v + 1) ⟨by omega, by omega⟩ (by omega)
  by_cases hlt : a + v < (s.size : Int)
  · obtain ⟨b, hb, _⟩ := pf (s := s) (i := a + v) (by omega) hlt
    rw [if_pos (by simpa using hlt)]
    simp only [hb, Option.bind_some, Jq, H2, dl, bw]
    refine Tot.ite (fun _ => hgo hlt) fun hn => Tot.some ⟨?_, by omega⟩
    by_cases hv : v = 0
    · subst hv
      rw [Int.add_zero, hc] at hb
      cases hb
      exfalso
      apply hn
      simp only [Bool.or_eq_true] at hld ⊢
      rcases hld with hld | hld <;> simp [hld]
    · omega
  · rw [if_neg (by simpa using hlt), Option.bind_some, if_neg (by simp)]
    refine Tot.some ⟨?_, by omega⟩
    by_cases hv : v = 0
    · omega
    · omega
theorem Rt {s : ByteArray} (hs : s.size ≤ 8000) : Tot (n9 s) fun r => r.2.2.2 = true → r.1.size ≤ 9 ∧ r.2.1.size ≤ 4 := by
  have fin : ∀ q : Int × ByteArray × ByteArray, q.2.1.size ≤ 8000 → q.2.2.size ≤ 4 → Tot (mg q) fun r => r.2.2.2 = true → r.1.size ≤ 9 ∧ r.2.1.size ≤ 4 := by
    intro q hq1 hq2
    unfold mg
    have e1 : i64 ((q.2.1.size : Int) + (q.2.2.size : Int)) = (q.2.1.size : Int) + (q.2.2.size : Int) := au (by omega) (by omega)
    refine Tot.loop (I := fun v : Int => 0 ≤ v) (μ := fun v => ((q.2.1.size : Int) + (q.2.2.size : Int) - v).toNat) (Int.le_refl _) (by omega) ?_
    intro r v g1 ih
    unfold xe
    rw [e1]
    refine Tot.ite (fun h => ?_) fun h => ?_
    · simp at h
      refine Tot.bind (ao (by omega)) fun c hc => ?_
      refine Tot.bind (pf g1 (by omega)) fun b _ => ?_
      rw [H2, Option.bind_some]
      refine Tot.ite (fun _ => Tot.some fun h => by cases h) fun _ => ?_
      rw [ss (by omega) (by omega)]
      exact ih (v + 1) (by omega) (by omega)
    · simp only [dl, Option.bind_some]
      by_cases hz : (q.2.1.size : Int) < 1
      · refine Tot.bind (Q := fun b => b = true) (Tot.ite (fun _ => Tot.some rfl) fun hn => absurd (by simpa using Or.inl hz) hn) fun b hb => ?_
        rw [if_pos hb]
        exact Tot.some fun h => by cases h
      · by_cases hg : (q.2.1.size : Int) > 9
        · refine Tot.bind (Q := fun b => b = true) (Tot.ite (fun _ => Tot.some rfl) fun hn => absurd (by simpa using Or.inr hg) hn) fun b hb => ?_
          rw [if_pos hb]
          exact Tot.some fun h => by cases h
        · refine Tot.bind (Q := fun b => True) (Tot.ite (fun _ => Tot.some trivial) fun hn => ?_) fun b _ => ?_
          · refine Tot.bind (Q := fun _ => True) (Tot.ite (fun _ => Tot.bind (pf (by omega) (by omega)) fun _ _ => Tot.some trivial) fun _ => Tot.some trivial) fun _ _ => Tot.some trivial
          · exact Tot.ite (fun _ => Tot.some fun h => by cases h) fun _ => Tot.some fun _ => ⟨by show q.2.1.size ≤ 9; omega, hq2⟩
  have j1 : ∀ q : ByteArray × Int, q.1.size ≤ 8000 → Tot (jm q) fun r => r.2.2.2 = true → r.1.size ≤ 9 ∧ r.2.1.size ≤ 4 := by
    intro q hq
    unfold jm
    have e1 : i64 ((q.1.size : Int) - 1) = (q.1.size : Int) - 1 := au (by omega) (by omega)
    rw [e1]
    refine Tot.loop (I := fun v : Int × Int => -1 ≤ v.2 ∧ v.2 < (q.1.size : Int) ∧ 0 ≤ v.1 ∧ v.1 ≤ (q.1.size : Int)) (μ := fun v => (v.2 + 1).toNat) (s := ((q.1.size : Int), (q.1.size : Int) - 1)) ⟨by show (-1 : Int) ≤ (q.1.size : Int) - 1; omega, by show (q.1.size : Int) - 1 < _; omega, by show (0 : Int) ≤ (q.1.size : Int); omega, Int.le_refl _⟩ (by show ((q.1.size : Int) - 1 + 1).toNat < _; omega) ?_
    intro r v hI ih
    obtain ⟨g1, g2, g3, g4⟩ := hI
    unfold xf
    refine Tot.ite (fun h => ?_) fun h => ?_
    · simp at h
      have e2 : i64 (v.2 - 1) = v.2 - 1 := au (by omega) (by omega)
      rw [e2]
      refine Tot.bind (pf h g2) fun b _ => Tot.ite (fun _ => ?_) fun _ => ?_
      · exact ih (v.2, v.2 - 1) ⟨by show -1 ≤ v.2 - 1; omega, by show v.2 - 1 < _; omega, h, by show v.2 ≤ _; omega⟩ (by show (v.2 - 1 + 1).toNat < (v.2 + 1).toNat; omega)
      · exact ih (v.1, v.2 - 1) ⟨by show -1 ≤ v.2 - 1; omega, by show v.2 - 1 < _; omega, g3, g4⟩ (by show (v.2 - 1 + 1).toNat < (v.2 + 1).toNat; omega)
    · refine Tot.bind (nh (by omega) g3 g4) fun a ha => Tot.ite (fun h2 => ?_) fun h2 => fin _ (by show a.size ≤ _; omega) (by show ng.size ≤ 4; decide)
      simp at h2
      rw [ss (by omega) (by omega)]
      refine Tot.bind (nh (by omega) (by omega) (by omega)) fun b hb => ?_
      simp only [dl, Option.bind_some]
      refine Tot.ite (fun _ => Tot.some fun h => by cases h) fun h3 => fin _ (by show a.size ≤ _; omega) ?_
      simp at h3
      show b.size ≤ 4
      omega
  unfold n9
  have last : ∀ c : Int, 0 < (s.size : Int) → Tot (Bd s (i64 ((s.size : Int) - 1))) fun b => 0 ≤ b ∧ b ≤ 255 := fun c h => by
    rw [au (by omega) (by omega)]
    exact pf (by omega) (by omega)
  have cut : 0 < (s.size : Int) → Tot (Jd s 0 (i64 ((s.size : Int) - 1))) fun r => (r.size : Int) = (s.size : Int) - 1 - 0 := fun h => by
    rw [au (by omega) (by omega)]
    exact nh (by omega) (by omega) (by omega)
  refine Tot.bind (Q := fun b => b = true → 0 < (s.size : Int)) (Tot.ite (fun h => ?_) fun _ => Tot.some fun h => by cases h) fun b hb => ?_
  · simp at h
    exact Tot.bind (last 0 (by omega)) fun _ _ => Tot.some fun _ => by omega
  refine Tot.ite (fun h => ?_) fun _ => ?_
  · exact Tot.bind (cut (hb h)) fun c hc => j1 _ (by show c.size ≤ 8000; omega)
  refine Tot.bind (Q := fun b => b = true → 0 < (s.size : Int)) (Tot.ite (fun h => ?_) fun _ => Tot.some fun h => by cases h) fun b hb => ?_
  · simp at h
    exact Tot.bind (last 0 (by omega)) fun _ _ => Tot.some fun _ => by omega
  refine Tot.ite (fun h => ?_) fun _ => j1 _ hs
  exact Tot.bind (cut (hb h)) fun c hc => j1 _ (by show c.size ≤ 8000; omega)
end Go.PL
namespace Go.PL
open Go Go.SX
theorem Ex {s : ByteArray} (hs : s.size ≤ 8000) : Tot (jx s) fun r => True := by
  unfold jx
  refine Tot.loop (I := fun v : Int × Int => 0 ≤ v.2) (μ := fun v => ((s.size : Int) - v.2).toNat) (Int.le_refl _) (by show ((s.size : Int) - 0).toNat < _; omega) ?_
  intro r v g1 ih
  unfold xk
  refine Tot.ite (fun h => ?_) fun _ => Tot.some trivial
  simp at h
  obtain ⟨b, hb, _⟩ := pf (s := s) g1 h
  simp only [hb, Option.bind_some, dl]
  refine Tot.ite (fun _ => Tot.some trivial) fun _ => ?_
  rw [ss (by omega) (by omega)]
  exact ih (_, v.2 + 1) (by show 0 ≤ v.2 + 1; omega) (by show ((s.size : Int) - (v.2 + 1)).toNat < ((s.size : Int) - v.2).toNat; omega)
theorem a0z (a : Int) : Tot (oe a) fun _ => True := by
  unfold oe
  have h : ∀ k : Int, k ≠ 0 → Tot (Di a k) fun _ => True := fun k hk => ⟨_, F4 hk, trivial⟩
  refine Tot.bind (h 4 (by decide)) fun b _ => ?_
  refine Tot.bind (Q := fun _ => True) (Tot.ite (fun _ => ?_) fun _ => Tot.some trivial) fun _ _ => Tot.some trivial
  refine Tot.bind (h 100 (by decide)) fun c _ => ?_
  exact Tot.bind (Q := fun _ => True) (Tot.ite (fun _ => Tot.some trivial) fun _ => Tot.bind (h 400 (by decide)) fun _ _ => Tot.some trivial) fun _ _ => Tot.some trivial
theorem Kz (a b : Int) : Tot (dr a b) fun r => True := by
  unfold dr
  refine Tot.ite (fun _ => Tot.bind (a0z a) fun _ _ => Tot.ite (fun _ => Tot.some trivial) fun _ => Tot.some trivial) fun _ => ?_
  repeat' first
    | exact Tot.some trivial
    | (refine Tot.ite (fun _ => ?_) fun _ => ?_)
theorem Y9 (a : Int) (h0 : a ≤ 100000) : Tot (ff a) fun r => True := by
  unfold ff
  refine Tot.loop (I := fun v : Int × Int => 0 ≤ v.2) (μ := fun v => (a - v.2).toNat) (Int.le_refl _) (by show (a - 0).toNat < _; omega) ?_
  intro r v g1 ih
  unfold my
  refine Tot.ite (fun h => ?_) fun _ => Tot.some trivial
  simp at h
  refine Tot.bind (vq g1 (by omega) (by omega)) fun _ _ => Tot.bind (qf g1 (by omega)) fun _ _ => Tot.bind (Kz _ _) fun _ _ => ?_
  rw [ss (by omega) (by omega)]
  exact ih (_, v.2 + 1) (by show 0 ≤ v.2 + 1; omega) (by show (a - (v.2 + 1)).toNat < (a - v.2).toNat; omega)
theorem a7h (a b c : Int) : Tot (tp a b c) fun _ => True := by
  unfold tp
  simp only [dl, Option.bind_some]
  obtain ⟨l, hl, _⟩ := Kz a b
  simp only [hl, Option.bind_some, dl]
  refine Tot.ite (fun _ => Tot.some trivial) fun h => ?_
  simp at h
  have e1 : i64 ((i64 ((i64 ((i64 (a - 1900)) * 12)) + b)) - 1) = (a - 1900) * 12 + b - 1 := by
    rw [au (n := a - 1900) (by omega) (by omega), au (n := (a - 1900) * 12) (by omega) (by omega), au (n := (a - 1900) * 12 + b) (by omega) (by omega), au (by omega) (by omega)]
  rw [e1]
  exact Tot.bind (Y9 _ (by omega)) fun _ _ => Tot.some trivial
theorem Ej {s : ByteArray} (hs : s.size ≤ 8000) : Tot (jh s) fun _ => True := by
  unfold jh
  by_cases h10 : s.size = 10
  · obtain ⟨b, hb, _⟩ := pf (s := s) (i := 4) (by omega) (by omega)
    obtain ⟨c, hc, _⟩ := pf (s := s) (i := 7) (by omega) (by omega)
    simp only [hb, hc, Option.bind_some, dl]
    refine Tot.ite (fun _ => Tot.some trivial) fun _ => ?_
    refine Tot.bind (nh (s := s) (a := 0) (b := 4) (by omega) (by omega) (by omega)) fun d hd => Tot.bind (Ex (by omega)) fun e _ => ?_
    refine Tot.bind (nh (s := s) (a := 5) (b := 7) (by omega) (by omega) (by omega)) fun f hf => Tot.bind (Ex (by omega)) fun g _ => ?_
    refine Tot.bind (nh (s := s) (a := 8) (b := s.size) (by omega) (by omega) (by omega)) fun h hh => Tot.bind (Ex (by omega)) fun i _ => ?_
    refine Tot.ite (fun _ => Tot.some trivial) fun _ => ?_
    exact Tot.bind (a7h _ _ _) fun _ _ => Tot.some trivial
  · have h1 : (((s.size : Int) != 10) = true) := by simp; omega
    rw [if_pos h1, Option.bind_some, if_pos rfl, Option.bind_some, if_pos rfl]
    exact Tot.some trivial
theorem a7y {s : ByteArray} (hs : s.size ≤ 8000) {a : Int} (h0 : 0 ≤ a) (h1 : a < (s.size : Int)) : Tot (s6 s a) fun r => 0 ≤ r ∧ a + r ≤ (s.size : Int) := by
  have j : Tot (ny (s, a)) fun r => 0 ≤ r ∧ a + r ≤ (s.size : Int) := by
    unfold ny
    refine Tot.bind (pf h0 h1) fun b _ => ?_
    repeat' first
      | (refine Tot.ite (fun _ => ?_) fun _ => ?_)
      | exact Tot.some ⟨by omega, by omega⟩
  unfold s6
  have e1 : i64 (a + 1) = a + 1 := au (by omega) (by omega)
  have e2 : i64 (a + 2) = a + 2 := au (by omega) (by omega)
  rw [e1, e2]
  refine Tot.ite (fun h => ?_) fun _ => j
  simp at h
  refine Tot.bind (nh h0 (by omega) (by omega)) fun c _ => ?_
  simp only [dl, Option.bind_some]
  exact Tot.ite (fun _ => Tot.some ⟨by omega, by omega⟩) fun _ => j
def TG (t : Token) : Prop := 1 ≤ t.Text.size ∧ t.Text.size ≤ 8000
theorem a7u {s : ByteArray} (hs : s.size ≤ 8000) {a : Int} (h0 : 0 ≤ a) (h1 : a ≤ (s.size : Int)) : Tot (ru s a) fun r => (r.2.2 != 0) = true ∨ (r.1.Kind == 0) = true ∨ (TG r.1 ∧ a < r.2.1 ∧ r.2.1 ≤ (s.size : Int)) := by
  have j : ∀ (p : Int) (t : Token) (k n : Int) (ok : Bool), a ≤ p → (ok = true → 1 ≤ n ∧ p + n ≤ (s.size : Int)) → Tot (fd (s, p, t, k, n, ok)) fun r => (r.2.2 != 0) = true ∨ (r.1.Kind == 0) = true ∨ (TG r.1 ∧ a < r.2.1 ∧ r.2.1 ≤ (s.size : Int)) := by
    intro p t k n ok hp hn
    unfold fd
    refine Tot.ite (fun h => Tot.some (.inl rfl)) fun h => ?_
    simp at h
    obtain ⟨g1, g2⟩ := hn h
    have e1 : i64 (p + n) = p + n := au (by omega) (by omega)
    simp only [e1]
    refine Tot.bind (nh (by omega) (by omega) (by omega)) fun c hc => Tot.some (.inr (.inr ⟨⟨?_, ?_⟩, ?_, ?_⟩))
    · show 1 ≤ c.size; omega
    · show c.size ≤ 8000; omega
    · show a < p + n; omega
    · show p + n ≤ _; omega
  unfold ru
  have hc : (decide (a < 0) || decide (a > (s.size : Int))) = false := by simp; omega
  rw [dl, Option.bind_some, hc, if_neg (by simp)]
  refine Tot.bind (a6v hs h0 h1) fun p hp => ?_
  refine Tot.ite (fun _ => Tot.some (.inr (.inl rfl))) fun hne => ?_
  have hlt : p < (s.size : Int) := by
    have : p ≠ (s.size : Int) := by simpa using hne
    omega
  obtain ⟨b, hb, _⟩ := pf (s := s) (i := p) (by omega) hlt
  simp only [hb, Option.bind_some, Jq, H2]
  refine Tot.ite (fun hl => ?_) fun hl => Tot.ite (fun hd => ?_) fun hd => Tot.ite (fun h => ?_) fun h => ?_
  · refine Tot.bind (a2s hs (by omega) hlt hb (by rw [hl]; rfl) false) fun n hn => ?_
    exact Tot.join (j _ _ _ _ _ hp.1 fun _ => hn)
  · refine Tot.bind (a2s hs (by omega) hlt hb (by rw [hd]; simp) true) fun n hn => ?_
    have e1 : i64 (p + n) = p + n := au (by omega) (by omega)
    rw [e1]
    refine Tot.bind (nh (by omega) (by omega) (by omega)) fun c hc => ?_
    refine Tot.bind (Rt (by omega)) fun q _ => ?_
    exact Tot.join (j _ _ _ _ _ hp.1 fun _ => hn)
  · have e0 : i64 ((s.size : Int) - p) = (s.size : Int) - p := au (by omega) (by omega)
    rw [e0]
    refine Tot.ite (fun h => ?_) fun h => ?_
    · simp at h
      have e1 : i64 (p + 1) = p + 1 := au (by omega) (by omega)
      have e2 : i64 (p + 11) = p + 11 := au (by omega) (by omega)
      rw [e1, e2]
      refine Tot.bind (nh (by omega) (by omega) (by omega)) fun c hc => Tot.bind (Ej (by omega)) fun d _ => ?_
      exact Tot.join (j _ _ _ _ _ hp.1 fun _ => ⟨by omega, by omega⟩)
    · exact Tot.join (j _ _ _ _ _ hp.1 fun hh => by simp at hh; omega)
  · refine Tot.bind (a7y hs (by omega) hlt) fun n hn => ?_
    exact Tot.join (j _ _ _ _ _ hp.1 fun hh => by simp at hh; omega)
theorem abd (s : ByteArray) : Tot (tu s) fun r => (∀ t ∈ r.1, TG t) ∧ r.1.length ≤ 8000 ∧ ((r.2.2 != 0) = true ∨ s.size ≤ 8000) := by
  unfold tu
  refine Tot.ite (fun _ => Tot.some ⟨(fun t ht => by cases ht), by simp, .inl rfl⟩) fun h => ?_
  have hs : s.size ≤ 8000 := by simp at h; omega
  refine Tot.loop (I := fun v : List Token × Int => 0 ≤ v.2 ∧ v.2 ≤ (s.size : Int) ∧ (v.1.length : Int) ≤ v.2 ∧ ∀ t ∈ v.1, TG t) (μ := fun v => ((s.size : Int) - v.2).toNat) (s := ([], 0)) ⟨Int.le_refl _, by show (0 : Int) ≤ (s.size : Int); omega, by simp, fun t ht => by cases ht⟩ (by show ((s.size : Int) - 0).toNat < _; omega) ?_
  intro r v hI ih
  obtain ⟨g1, g2, g3, g4⟩ := hI
  unfold yz
  refine Tot.bind (a7u hs g1 g2) fun q hq => ?_
  refine Tot.ite (fun h => Tot.some ⟨(fun t ht => by cases ht), by simp, .inl h⟩) fun hn => Tot.ite (fun h => Tot.some ⟨g4, by show v.1.length ≤ 8000; omega, .inr hs⟩) fun hk => ?_
  rcases hq with hq | hq | ⟨q1, q2, q3⟩
  · exact absurd hq hn
  · exact absurd hq hk
  · refine Tot.bind (mj (by simp; omega)) fun l hl => ?_
    subst hl
    refine ih (v.1 ++ [q.1], q.2.1) ⟨by show 0 ≤ q.2.1; omega, q3, by simp; omega, fun t ht => ?_⟩ (by show ((s.size : Int) - q.2.1).toNat < ((s.size : Int) - v.2).toNat; omega)
    rcases List.mem_append.1 ht with ht | ht
    · exact g4 t ht
    · rw [List.mem_singleton] at ht; rw [ht]; exact q1
end Go.PL
namespace Go.PL
open Go Go.SX
def RI (r : pensionref5_reader) : Prop := 0 ≤ r.at_ ∧ r.at_ ≤ (r.l.length : Int) ∧ r.l.length ≤ 8000 ∧ ∀ t ∈ r.l, TG t
def RS (r q : pensionref5_reader) : Prop := q.l = r.l ∧ r.at_ ≤ q.at_ ∧ q.at_ ≤ (r.l.length : Int) ∧ (r.bad = true → q.bad = true)
theorem RS.ri {r q : pensionref5_reader} (h : RI r) (hs : RS r q) : RI q := by
  obtain ⟨h1, h2, h3, h4⟩ := h
  obtain ⟨e, g1, g2, _⟩ := hs
  exact ⟨by omega, by rw [e]; exact g2, by rw [e]; exact h3, by rw [e]; exact h4⟩
theorem RS.refl {r : pensionref5_reader} (h : RI r) : RS r r := ⟨rfl, Int.le_refl _, h.2.1, id⟩
theorem RS.trans {r q s : pensionref5_reader} (h : RS r q) (g : RS q s) : RS r s := by
  obtain ⟨e, g1, g2, g3⟩ := h
  obtain ⟨e', g1', g2', g3'⟩ := g
  exact ⟨e'.trans e, by omega, by rw [e] at g2'; exact g2', fun h => g3' (g3 h)⟩
theorem RS.bad {r : pensionref5_reader} (h : RI r) : RS r ⟨r.l, r.at_, r.end_, true⟩ := ⟨rfl, Int.le_refl _, h.2.1, fun _ => rfl⟩
theorem RS.next {r : pensionref5_reader} (h : RI r) (hlt : r.at_ < (r.l.length : Int)) : i64 (r.at_ + 1) = r.at_ + 1 ∧ RS r ⟨r.l, r.at_ + 1, r.end_, r.bad⟩ := by
  obtain ⟨h1, h2, h3, h4⟩ := h
  exact ⟨ss h1 (by omega), rfl, by show r.at_ ≤ r.at_ + 1; omega, by show r.at_ + 1 ≤ _; omega, id⟩
theorem a0h {r : pensionref5_reader} (h : RI r) (s : ByteArray) : Tot (d5 r s) fun b => b = true → r.bad = false ∧ r.at_ < (r.l.length : Int) := by
  unfold d5
  rw [bw, Option.bind_some]
  refine Tot.bind (Q := fun b => b = true → r.bad = false ∧ r.at_ < (r.l.length : Int)) (Tot.ite (fun hc => ?_) fun _ => Tot.some fun h => by cases h) fun b hb => Tot.some hb
  simp at hc
  exact Tot.bind (dh h.1 hc.2) fun _ _ => Tot.some fun _ => hc
theorem C1 {r : pensionref5_reader} (h : RI r) (k : Int) : Tot (ch r k) fun b => b = true → r.bad = false ∧ r.at_ < (r.l.length : Int) := by
  unfold ch
  rw [bw, Option.bind_some]
  refine Tot.bind (Q := fun b => b = true → r.bad = false ∧ r.at_ < (r.l.length : Int)) (Tot.ite (fun hc => ?_) fun _ => Tot.some fun h => by cases h) fun b hb => Tot.some hb
  simp at hc
  exact Tot.bind (dh h.1 hc.2) fun _ _ => Tot.some fun _ => hc
theorem pj {r : pensionref5_reader} (h : RI r) (s : ByteArray) : Tot (ak r s) fun q => RS r q.2 ∧ (q.1 = true → r.at_ < q.2.at_) ∧ q.2.bad = r.bad ∧ (q.1 = false → q.2 = r) := by
  unfold ak
  refine Tot.bind (a0h h s) fun b hb => Tot.ite (fun hn => Tot.some ⟨RS.refl h, fun h => (by cases h), rfl, fun _ => rfl⟩) fun hn => ?_
  simp at hn
  obtain ⟨e, hs⟩ := RS.next h (hb hn).2
  rw [e]
  exact Tot.some ⟨hs, fun _ => (by show r.at_ < r.at_ + 1; omega), rfl, fun h => by cases h⟩
theorem gj {r : pensionref5_reader} (h : RI r) (s : ByteArray) : Tot (ab r s) fun q => RS r q ∧ (r.at_ < q.at_ ∨ q.bad = true) := by
  unfold ab
  refine Tot.bind (pj h s) fun q hq => Tot.ite (fun hn => ?_) fun hn => Tot.some ⟨hq.1, .inl (hq.2.1 (by simpa using hn))⟩
  unfold br
  rw [Option.bind_some]
  exact Tot.some ⟨hq.1.trans (RS.bad (hq.1.ri h)), .inr rfl⟩
theorem Fo (r : pensionref5_reader) : br r = some ⟨r.l, r.at_, r.end_, true⟩ := rfl
theorem Yc {s : ByteArray} (hs : s.size ≤ 8000) : Tot (pg s) fun _ => True := by
  unfold pg
  refine Tot.loop (I := fun v : Int => 0 ≤ v) (μ := fun v => ((s.size : Int) - v).toNat) (Int.le_refl _) (by omega) ?_
  intro r v g1 ih
  unfold wg
  refine Tot.ite (fun h => ?_) fun _ => ?_
  · simp at h
    obtain ⟨b, hb, _⟩ := pf (s := s) g1 h
    simp only [hb, Option.bind_some, Jq, H2, dl, bw]
    refine Tot.ite (fun _ => Tot.some trivial) fun _ => ?_
    rw [ss (by omega) (by omega)]
    exact ih (v + 1) (by omega) (by omega)
  · rw [bw, Option.bind_some]
    exact Tot.some trivial
theorem U7 (s : ByteArray) : Tot (nj s) fun _ => True := by
  unfold nj
  repeat' first
    | exact Tot.some trivial
    | (refine Tot.ite (fun _ => ?_) fun _ => ?_)
theorem Bz {s : ByteArray} (hs : s.size ≤ 8000) : Tot (g9 s) fun _ => True := by
  unfold g9
  refine Tot.bind (Yc hs) fun b _ => ?_
  exact Tot.bind (Q := fun _ => True) (Tot.ite (fun _ => Tot.bind (U7 s) fun _ _ => Tot.some trivial) fun _ => Tot.some trivial) fun _ _ => Tot.some trivial
theorem N7 {r : pensionref5_reader} (h : RI r) : Tot (ef r) fun q => RS r q.2 ∧ q.1.size ≤ 8000 ∧ (r.at_ < q.2.at_ ∨ q.2.bad = true) := by
  unfold ef
  refine Tot.bind (C1 h 1) fun b hb => ?_
  refine Tot.bind (Q := fun c => c = false → r.at_ < (r.l.length : Int)) (Tot.ite (fun _ => Tot.some fun h => by cases h) fun hn => ?_) fun c hc => ?_
  · have hlt := (hb (by simpa using hn)).2
    obtain ⟨t, ht, hm⟩ := dh h.1 hlt
    rw [ht, Option.bind_some]
    exact Tot.bind (Bz (h.2.2.2 t hm).2) fun _ _ => Tot.some fun _ => hlt
  · refine Tot.ite (fun _ => ?_) fun hn => ?_
    · rw [Fo, Option.bind_some]
      exact Tot.some ⟨RS.bad h, (by show ng.size ≤ 8000; decide), .inr rfl⟩
    · have hlt := hc (by simpa using hn)
      obtain ⟨e, hs⟩ := RS.next h hlt
      have h1 := h.1
      have h3 := h.2.2.1
      have e2 : i64 (r.at_ + 1 - 1) = r.at_ := by rw [au (by omega) (by omega)]; omega
      rw [e, e2]
      obtain ⟨t, ht, hm⟩ := dh h.1 hlt
      rw [ht, Option.bind_some]
      exact Tot.some ⟨hs, (h.2.2.2 t hm).2, .inl (by show r.at_ < r.at_ + 1; omega)⟩
theorem Hb (a : Int) : ∃ v, je a = some v ∧ 0 ≤ v ∧ v ≤ 18446744073709551615 ∧ (0 ≤ a → a ≤ 18446744073709551615 → v = a) := by
  unfold je
  split
  · rename_i h
    simp at h
    exact ⟨_, rfl, (Es _).1, (Es _).2, fun h0 => by omega⟩
  · exact ⟨_, rfl, (Es _).1, (Es _).2, fun h0 h1 => a3p h0 h1⟩
theorem Xf {a b : Int} (ha : 0 ≤ a) (hb : 0 ≤ b) (h : 0 < a + b) (hma : a ≤ 18446744073709551615) (hm : b ≤ 18446744073709551615) : Tot (qb a b) fun g => 0 < g ∧ g ≤ 18446744073709551615 := by
  unfold qb
  refine Tot.loop (I := fun v : Int × Int => 0 ≤ v.1 ∧ 0 ≤ v.2 ∧ 0 < v.1 + v.2 ∧ v.1 ≤ 18446744073709551615 ∧ v.2 ≤ 18446744073709551615) (μ := fun v => v.2.toNat) ⟨ha, hb, h, hma, hm⟩ (by show b.toNat < _; omega) ?_
  intro r v hI ih
  obtain ⟨g1, g2, g3, g4, g5⟩ := hI
  unfold zk
  refine Tot.ite (fun hc => ?_) fun hc => Tot.some ⟨by simp at hc; omega, g4⟩
  have hv : 0 < v.2 := by
    have : v.2 ≠ 0 := by simpa using hc
    omega
  refine Tot.bind (qf g1 hv) fun c hcc => ih (v.2, c) ⟨g2, hcc.2.1, by show 0 < v.2 + c; omega, g5, by show c ≤ _; omega⟩ (by show c.toNat < v.2.toNat; omega)
theorem Wg {lo d : Int} (h0 : 0 ≤ lo) (h1 : lo ≤ 18446744073709551615) (hd : 0 < d) (hd1 : d ≤ 18446744073709551615) : Tot (ix ⟨0, lo⟩ d) fun q => 0 ≤ q.2 ∧ q.2 < d := by
  unfold ix
  dsimp only
  refine Tot.bind (qf (Int.le_refl 0) hd) fun z hz => ?_
  have hz0 : z = 0 := by omega
  subst hz0
  have hD : Tot (Ca 0 lo d) fun q => 0 ≤ q.2 ∧ q.2 < d := by
    unfold Ca E7 E2
    rw [if_neg (by simp; omega)]
    refine Tot.join ?_
    dsimp only
    rw [if_neg (by simp; omega)]
    refine Tot.join ?_
    dsimp only
    refine Tot.ite (fun _ => ?_) fun hn => absurd rfl hn
    rw [if_neg (by omega), Option.bind_some]
    exact Tot.bind (qf h0 hd) fun r hr => Tot.some ⟨hr.2.1, hr.2.2.1⟩
  refine Tot.bind hD fun q hq => ?_
  rw [if_neg (by omega), Option.bind_some]
  exact Tot.some hq
theorem F1 (a : Int) {d : Int} (hd : 0 < d) (hd1 : d ≤ 100000) : Tot (ja a d) fun _ => True := by
  unfold ja
  rw [if_neg (by simp; omega)]
  obtain ⟨x, hx, x0, x1, _⟩ := Hb a
  obtain ⟨y, hy, y0, y1, y2⟩ := Hb d
  have hyd := y2 (by omega) (by omega)
  subst hyd
  rw [hx, hy, Option.bind_some, Option.bind_some]
  refine Tot.bind (Q := fun _ => True) ?_ fun _ _ => Tot.some trivial
  unfold tq
  refine Tot.bind (Wg x0 x1 hd (by omega)) fun q hq => ?_
  refine Tot.bind (Xf (a := y) (b := q.2) (by omega) hq.1 (by omega) (by omega) (by omega)) fun g hg => ?_
  refine Tot.bind (Wg x0 x1 hg.1 hg.2) fun w _ => ?_
  rw [if_neg (by omega), Option.bind_some]
  simp only [dl, Option.bind_some]
  exact Tot.ite (fun _ => Tot.some trivial) fun _ => Tot.ite (fun _ => Tot.some trivial) fun _ => Tot.some trivial
theorem Da {s : ByteArray} (hs : s.size ≤ 8000) : Tot (ic s) fun _ => True := by
  unfold ic
  refine Tot.bind (Rt hs) fun p hp => Tot.ite (fun _ => Tot.some trivial) fun hn => ?_
  obtain ⟨p1, p2⟩ := hp (by simpa using hn)
  have e1 : i64 ((p.1.size : Int) + (p.2.1.size : Int)) = (p.1.size : Int) + (p.2.1.size : Int) := au (by omega) (by omega)
  refine Tot.loop (I := fun v : Fraction × Int × Int × Int => 0 ≤ v.2.2.2 ∧ v.2.2.2 ≤ (p.1.size : Int) + (p.2.1.size : Int) ∧ ((v.2.2.2 ≤ (p.1.size : Int) ∧ v.2.2.1 = 1) ∨ (v.2.2.2 = (p.1.size : Int) + 1 ∧ v.2.2.1 = 10) ∨ (v.2.2.2 = (p.1.size : Int) + 2 ∧ v.2.2.1 = 100) ∨ (v.2.2.2 = (p.1.size : Int) + 3 ∧ v.2.2.1 = 1000) ∨ (v.2.2.2 = (p.1.size : Int) + 4 ∧ v.2.2.1 = 10000)))
    (μ := fun v => ((p.1.size : Int) + (p.2.1.size : Int) - v.2.2.2).toNat) ⟨Int.le_refl _, by show (0 : Int) ≤ (p.1.size : Int) + (p.2.1.size : Int); omega, .inl ⟨by show (0 : Int) ≤ (p.1.size : Int); omega, rfl⟩⟩ (by show ((p.1.size : Int) + (p.2.1.size : Int) - 0).toNat < _; omega) ?_
  intro r v hI ih
  obtain ⟨g1, g2, g3⟩ := hI
  unfold ul
  rw [e1]
  refine Tot.ite (fun h => ?_) fun h => ?_
  · simp at h
    refine Tot.bind (ao (by omega)) fun c hc => Tot.bind (pf g1 (by omega)) fun b _ => ?_
    rw [ss g1 (by omega)]
    refine Tot.ite (fun h2 => ?_) fun h2 => ?_
    · simp at h2
      have e2 : i64 (v.2.2.1 * 10) = v.2.2.1 * 10 := au (by omega) (by omega)
      rw [e2]
      exact ih (_, _, v.2.2.1 * 10, v.2.2.2 + 1) ⟨by show 0 ≤ v.2.2.2 + 1; omega, by show v.2.2.2 + 1 ≤ _; omega, by
        show (v.2.2.2 + 1 ≤ (p.1.size : Int) ∧ v.2.2.1 * 10 = 1) ∨ (v.2.2.2 + 1 = (p.1.size : Int) + 1 ∧ v.2.2.1 * 10 = 10) ∨ (v.2.2.2 + 1 = (p.1.size : Int) + 2 ∧ v.2.2.1 * 10 = 100) ∨ (v.2.2.2 + 1 = (p.1.size : Int) + 3 ∧ v.2.2.1 * 10 = 1000) ∨ (v.2.2.2 + 1 = (p.1.size : Int) + 4 ∧ v.2.2.1 * 10 = 10000)
        omega⟩ (by show ((p.1.size : Int) + (p.2.1.size : Int) - (v.2.2.2 + 1)).toNat < ((p.1.size : Int) + (p.2.1.size : Int) - v.2.2.2).toNat; omega)
    · simp at h2
      exact ih (_, _, v.2.2.1, v.2.2.2 + 1) ⟨by show 0 ≤ v.2.2.2 + 1; omega, by show v.2.2.2 + 1 ≤ _; omega, by
        show (v.2.2.2 + 1 ≤ (p.1.size : Int) ∧ v.2.2.1 = 1) ∨ (v.2.2.2 + 1 = (p.1.size : Int) + 1 ∧ v.2.2.1 = 10) ∨ (v.2.2.2 + 1 = (p.1.size : Int) + 2 ∧ v.2.2.1 = 100) ∨ (v.2.2.2 + 1 = (p.1.size : Int) + 3 ∧ v.2.2.1 = 1000) ∨ (v.2.2.2 + 1 = (p.1.size : Int) + 4 ∧ v.2.2.1 = 10000)
        omega⟩ (by show ((p.1.size : Int) + (p.2.1.size : Int) - (v.2.2.2 + 1)).toNat < ((p.1.size : Int) + (p.2.1.size : Int) - v.2.2.2).toNat; omega)
  · exact Tot.bind (F1 _ (by omega) (by omega)) fun _ _ => Tot.some trivial
theorem Be {r : pensionref5_reader} (h : RI r) (a b : Int) : Tot (ct r a b) fun q => RS r q.2 ∧ (r.at_ < q.2.at_ ∨ q.2.bad = true) := by
  unfold ct
  simp only [Fo, Option.bind_some]
  refine Tot.bind (C1 h 2) fun c hc => Tot.ite (fun hp => ?_) fun _ => Tot.some ⟨RS.bad h, .inr rfl⟩
  have hlt := (hc hp).2
  refine Tot.bind (dh h.1 hlt) fun t ht => Tot.bind (Da (h.2.2.2 t ht).2) fun d _ => ?_
  simp only [bw, Option.bind_some]
  obtain ⟨e, hs⟩ := RS.next h hlt
  rw [e]
  exact Tot.ite (fun _ => Tot.some ⟨hs, .inl (by show r.at_ < r.at_ + 1; omega)⟩) fun _ => Tot.some ⟨RS.bad h, .inr rfl⟩
theorem a4o {s : ByteArray} (h1 : 1 ≤ s.size) (h2 : s.size ≤ 8000) : Tot (qd s) fun _ => True := by
  unfold qd
  exact Tot.bind (nh (by omega) (by omega) (by omega)) fun c hc => Tot.bind (Ej (by omega)) fun _ _ => Tot.some trivial
theorem Ww (s : ByteArray) : Tot (o9 s) fun _ => True := by
  unfold o9
  repeat' first
    | exact Tot.some trivial
    | (refine Tot.ite (fun _ => ?_) fun _ => ?_)
theorem Km (s : ByteArray) : Tot (kf s) fun _ => True := by
  unfold kf
  repeat' first
    | exact Tot.some trivial
    | (refine Tot.ite (fun _ => ?_) fun _ => ?_)
theorem X1 (s : ByteArray) : Tot (oh s) fun _ => True := by
  unfold oh
  repeat' first
    | exact Tot.some trivial
    | (refine Tot.ite (fun _ => ?_) fun _ => ?_)
theorem Wj {r : pensionref5_reader} (h : RI r) {a : Int} (h1 : 1 ≤ a) (h3 : a ≤ 3) : Tot (dz r a) fun q => RS r q.2 ∧ (r.at_ < q.2.at_ ∨ q.2.bad = true) := by
  unfold dz
  simp only [Fo, Option.bind_some]
  refine Tot.bind (C1 h 1) fun c hc => Tot.ite (fun hp => ?_) fun _ => Tot.some ⟨RS.bad h, .inr rfl⟩
  have hlt := (hc hp).2
  refine Tot.bind (dh h.1 hlt) fun t ht => Tot.bind (Ww _) fun k _ => Tot.bind (Km _) fun b _ => Tot.bind (X1 _) fun m _ => ?_
  have e1 : i64 (a - 1) = a - 1 := au (by omega) (by omega)
  rw [e1]
  obtain ⟨e, hs⟩ := RS.next h hlt
  rw [e]
  obtain ⟨x, hx, _⟩ := dh (l := [k, b, m]) (i := a - 1) (by omega) (by simp; omega)
  rw [hx, Option.bind_some, Option.bind_some]
  exact Tot.ite (fun _ => Tot.some ⟨hs, .inl (by show r.at_ < r.at_ + 1; omega)⟩) fun _ => Tot.some ⟨RS.bad h, .inr rfl⟩
end Go.PL
namespace Go.PL
open Go Go.SX
theorem Wd (a : Int) : Tot (o7 a) fun _ => True := by
  unfold o7
  simp only [bw, Option.bind_some]
  repeat' first
    | exact Tot.some trivial
    | (refine Tot.ite (fun _ => ?_) fun _ => ?_)
theorem a08 (a : Int) : Tot (qq a) fun _ => True := by
  have j2 : ∀ q : Int × Bool, Tot (mn q) fun _ => True := by
    intro q
    unfold mn
    repeat' first
      | exact Tot.some trivial
      | (refine Tot.ite (fun _ => ?_) fun _ => ?_)
  have j1 : ∀ q : Int × Bool, Tot (dj q) fun _ => True := by
    intro q
    unfold dj
    repeat' first
      | exact Tot.some trivial
      | exact Tot.join (j2 _)
      | (refine Tot.ite (fun _ => ?_) fun _ => ?_)
  unfold qq
  repeat' first
    | exact Tot.some trivial
    | exact Tot.join (j1 _)
    | (refine Tot.ite (fun _ => ?_) fun _ => ?_)
theorem Yb (a : Int) : Tot (p5 a) fun _ => True := by
  unfold p5
  repeat' first
    | exact Tot.some trivial
    | (refine Tot.ite (fun _ => ?_) fun _ => ?_)
theorem Yr {r : pensionref5_reader} (h : RI r) (k : Int) : Tot (iq r k) fun o => (o == 0) = true ∨ r.at_ < (r.l.length : Int) := by
  unfold iq
  refine Tot.loop (I := fun v : Int => 0 ≤ v ∧ v ≤ 19) (μ := fun v => (19 - v).toNat) ⟨by omega, by omega⟩ (by decide) ?_
  intro rc v hI ih
  obtain ⟨g1, g2⟩ := hI
  unfold oz
  refine Tot.ite (fun hv => ?_) fun _ => Tot.some (.inl rfl)
  simp at hv
  refine Tot.bind (a08 v) fun l _ => ?_
  refine Tot.bind (Q := fun b => b = true → r.at_ < (r.l.length : Int)) (Tot.ite (fun _ => ?_) fun _ => Tot.some fun h => by cases h) fun b hb => ?_
  · exact Tot.bind (Yb v) fun s _ => Tot.bind (a0h h s) fun b hb => Tot.some fun hh => (hb hh).2
  refine Tot.ite (fun hp => Tot.some (.inr (hb hp))) fun _ => ?_
  rw [ss g1 (by omega)]
  exact ih (v + 1) ⟨by omega, by omega⟩ (by omega)
def EB : Nat → Expr → Prop
  | 0, _ => False
  | n + 1, e => e.Args.length ≤ 3 ∧ e.Name.size ≤ 8000 ∧ ∀ a ∈ e.Args, EB n a
theorem EB.succ : ∀ {n : Nat} {e : Expr}, EB n e → EB (n + 1) e
  | 0, _, h => h.elim
  | n + 1, e, h => ⟨h.1, h.2.1, fun a ha => (h.2.2 a ha).succ⟩
theorem EB.mono {n m : Nat} {e : Expr} (h : EB n e) (hm : n ≤ m) : EB m e := by
  induction hm with
  | refl => exact h
  | step _ ih => exact ih.succ
theorem EB.leaf {n : Nat} {o : Int} {f : Fraction} {d : Int} {s : ByteArray} (hs : s.size ≤ 8000) : EB (n + 1) ⟨o, f, d, s, []⟩ := ⟨by simp, hs, fun a ha => by cases ha⟩
theorem EB.one {n : Nat} {o : Int} {f : Fraction} {d : Int} {a : Expr} (h : EB n a) : EB (n + 1) ⟨o, f, d, ng, [a]⟩ := ⟨by simp, (by decide : ng.size ≤ 8000), fun x hx => by
  have hx : x ∈ [a] := hx
  rw [List.mem_singleton] at hx; subst hx; exact h⟩
theorem EB.two {n : Nat} {o : Int} {f : Fraction} {d : Int} {a b : Expr} (h : EB n a) (hb : EB n b) : EB (n + 1) ⟨o, f, d, ng, [a, b]⟩ := ⟨by simp, (by decide : ng.size ≤ 8000), fun x hx => by
  have hx : x ∈ [a, b] := hx
  rcases List.mem_cons.1 hx with rfl | hx
  · exact h
  · rw [List.mem_singleton] at hx; subst hx; exact hb⟩
theorem EB.three {n : Nat} {o : Int} {f : Fraction} {d : Int} {a b c : Expr} (h : EB n a) (hb : EB n b) (hc : EB n c) : EB (n + 1) ⟨o, f, d, ng, [a, b, c]⟩ := ⟨by simp, (by decide : ng.size ≤ 8000), fun x hx => by
  have hx : x ∈ [a, b, c] := hx
  rcases List.mem_cons.1 hx with rfl | hx
  · exact h
  · rcases List.mem_cons.1 hx with rfl | hx
    · exact hb
    · rw [List.mem_singleton] at hx; subst hx; exact hc⟩
def EQ (r : pensionref5_reader) (q : Expr × pensionref5_reader) : Prop := RS r q.2 ∧ EB ((q.2.at_ - r.at_).toNat + 1) q.1
def left (r : pensionref5_reader) : Nat := ((r.l.length : Int) - r.at_).toNat
theorem vg {r q : pensionref5_reader} (h : RS r q) : left q ≤ left r := by
  unfold left; rw [h.1]; have := h.2.1; omega
theorem Bt {r q : pensionref5_reader} (hr : RI r) (h : RS r q) (hlt : r.at_ < q.at_) : left q < left r := by
  have h2 := h.2.2.1
  unfold left; rw [h.1]; omega
structure RB (R : Ring_pensionref5_reader_expr) (n : Nat) : Prop where
  e : ∀ r k, RI r → 0 ≤ k → k ≤ 7 → 10 * left r + (9 - k.toNat) < n → Tot (R.f_pensionref5_reader_expr r k) (EQ r)
  f : ∀ r, RI r → 10 * left r + 1 < n → Tot (R.f_pensionref5_reader_factor r) (EQ r)
  c : ∀ r k, RI r → r.at_ < (r.l.length : Int) → 10 * left r < n → Tot (R.f_pensionref5_reader_call r k) (EQ r)
section
variable {R : Ring_pensionref5_reader_expr} {n : Nat}
theorem a24 (hR : RB R n) {r : pensionref5_reader} (hr : RI r) (hlt : r.at_ < (r.l.length : Int)) (k : Int) (hn : 10 * left r < n + 1) : Tot (ip R r k) (EQ r) := by
  unfold ip
  obtain ⟨e0, hs0⟩ := RS.next hr hlt
  rw [e0]
  have hr0 := hs0.ri hr
  have hl0 : left ⟨r.l, r.at_ + 1, r.end_, r.bad⟩ < left r := Bt hr hs0 (by show r.at_ < r.at_ + 1; omega)
  refine Tot.bind (gj hr0 _) fun q1 h1 => ?_
  have hs1 := hs0.trans h1.1
  have hl1 := vg h1.1
  have ha1 : r.at_ + 1 ≤ q1.at_ := h1.1.2.1
  refine Tot.bind (hR.e q1 0 (hs1.ri hr) (by omega) (by omega) (by omega)) fun x1 g1 => ?_
  have hs2 := hs1.trans g1.1
  have hl2 := vg g1.1
  have ha2 := g1.1.2.1
  refine Tot.bind (Wd k) fun m _ => Tot.ite (fun _ => ?_) fun _ => ?_
  · refine Tot.bind (gj (hs2.ri hr) _) fun q2 h2 => ?_
    have hs3 := hs2.trans h2.1
    have hl3 := vg h2.1
    have ha3 := h2.1.2.1
    have e5 : av [x1.1] 0 = some x1.1 := rfl
    rw [e5, Option.bind_some]
    refine Tot.bind (hR.e q2 0 (hs3.ri hr) (by omega) (by omega) (by omega)) fun x2 g2 => ?_
    have hs4 := hs3.trans g2.1
    have ha4 := g2.1.2.1
    refine Tot.bind (gj (hs4.ri hr) _) fun q3 h3 => ?_
    have hs5 := hs4.trans h3.1
    have ha5 := h3.1.2.1
    exact Tot.some ⟨hs5, (EB.two (g1.2.mono (by omega)) (g2.2.mono (by omega)) : EB ((q3.at_ - r.at_).toNat + 1) _)⟩
  · refine Tot.bind (gj (hs2.ri hr) _) fun q2 h2 => ?_
    have ha3 := h2.1.2.1
    exact Tot.some ⟨hs2.trans h2.1, (EB.one (g1.2.mono (by omega)) : EB ((q2.at_ - r.at_).toNat + 1) _)⟩
theorem U0 (hR : RB R n) {r : pensionref5_reader} (hr : RI r) (hn : 10 * left r + 1 < n + 1) : Tot (fw R r) (EQ r) := by
  unfold fw
  refine Tot.bind (C1 hr 2) fun c hc => Tot.ite (fun hp => ?_) fun _ => ?_
  · have hlt := (hc hp).2
    refine Tot.bind (dh hr.1 hlt) fun t ht => Tot.bind (Da (hr.2.2.2 t ht).2) fun d _ => ?_
    obtain ⟨e, hs⟩ := RS.next hr hlt
    rw [e]
    exact Tot.some ⟨hs, EB.leaf (by decide)⟩
  refine Tot.bind (pj hr _) fun t1 h1 => Tot.ite (fun hp => ?_) fun hp => ?_
  · have hl := Bt hr h1.1 (h1.2.1 hp)
    have ha := h1.2.1 hp
    refine Tot.bind (hR.e t1.2 7 (h1.1.ri hr) (by omega) (by omega) (by omega)) fun x g => ?_
    have ha2 := g.1.2.1
    exact Tot.some ⟨h1.1.trans g.1, (EB.one (g.2.mono (by omega)) : EB ((x.2.at_ - r.at_).toNat + 1) _)⟩
  have e1 : t1.2 = r := h1.2.2.2 (by simpa using hp)
  rw [e1]
  refine Tot.bind (pj hr _) fun t2 h2 => Tot.ite (fun hp => ?_) fun hp => ?_
  · have hl := Bt hr h2.1 (h2.2.1 hp)
    have ha := h2.2.1 hp
    refine Tot.bind (hR.e t2.2 0 (h2.1.ri hr) (by omega) (by omega) (by omega)) fun x g => ?_
    have hs := h2.1.trans g.1
    have ha2 := g.1.2.1
    refine Tot.bind (gj (hs.ri hr) _) fun q hq => ?_
    have ha3 := hq.1.2.1
    exact Tot.some ⟨hs.trans hq.1, g.2.mono (by show _ ≤ (q.at_ - r.at_).toNat + 1; omega)⟩
  have e2 : t2.2 = r := h2.2.2.2 (by simpa using hp)
  rw [e2]
  refine Tot.bind (pj hr _) fun t3 h3 => Tot.ite (fun hp => ?_) fun hp => ?_
  · refine Tot.bind (gj (h3.1.ri hr) _) fun q1 g1 => ?_
    have hs1 := h3.1.trans g1.1
    refine Tot.bind (Be (hs1.ri hr) 1 45) fun q2 g2 => ?_
    have hs2 := hs1.trans g2.1
    refine Tot.bind (gj (hs2.ri hr) _) fun q3 g3 => ?_
    exact Tot.some ⟨hs2.trans g3.1, EB.leaf (by decide)⟩
  have e3 : t3.2 = r := h3.2.2.2 (by simpa using hp)
  rw [e3]
  have cl : ∀ (s : ByteArray) (k : Int) (o : Option (Expr × pensionref5_reader)), Tot o (EQ r) → Tot (Option.bind (d5 r s) fun b => if b = true then Option.bind (R.f_pensionref5_reader_call r k) fun v => some (v.1, v.2) else o) (EQ r) := by
    intro s k o ho
    refine Tot.bind (a0h hr s) fun b hb => Tot.ite (fun hp => ?_) fun _ => ho
    exact Tot.bind (hR.c r k hr (hb hp).2 (by omega)) fun v hv => Tot.some hv
  refine cl _ _ _ (cl _ _ _ (cl _ _ _ ?_))
  refine Tot.bind (N7 hr) fun q hq => Tot.some ⟨hq.1, EB.leaf hq.2.1⟩
theorem a2e (hR : RB R n) {r : pensionref5_reader} (hr : RI r) {k : Int} (h0 : 0 ≤ k) (h7 : k ≤ 7) (hn : 10 * left r + (9 - k.toNat) < n + 1) : Tot (iu R r k) (EQ r) := by
  unfold iu
  refine Tot.ite (fun _ => Tot.some ⟨RS.refl hr, EB.leaf (by decide)⟩) fun hbad => ?_
  refine Tot.ite (fun hk => ?_) fun hk => ?_
  · simp at hk
    subst hk
    refine Tot.bind (pj hr _) fun t ht => Tot.ite (fun hp => ?_) fun hp => ?_
    · have e1 : t.2 = r := ht.2.2.2 (by simpa using hp)
      rw [e1]
      exact Tot.bind (hR.e r 1 hr (by omega) (by omega) (by omega)) fun v hv => Tot.some hv
    · have hc := ht.2.1 (by simpa using hp)
      have hl := Bt hr ht.1 hc
      refine Tot.bind (hR.e t.2 0 (ht.1.ri hr) (by omega) (by omega) (by omega)) fun x1 g1 => ?_
      have hs1 := ht.1.trans g1.1
      have hl1 := vg g1.1
      have ha1 := g1.1.2.1
      refine Tot.bind (gj (hs1.ri hr) _) fun q1 w1 => ?_
      have hs2 := hs1.trans w1.1
      have hl2 := vg w1.1
      have ha2 := w1.1.2.1
      refine Tot.bind (hR.e q1 0 (hs2.ri hr) (by omega) (by omega) (by omega)) fun x2 g2 => ?_
      have hs3 := hs2.trans g2.1
      have hl3 := vg g2.1
      have ha3 := g2.1.2.1
      refine Tot.bind (gj (hs3.ri hr) _) fun q2 w2 => ?_
      have hs4 := hs3.trans w2.1
      have hl4 := vg w2.1
      have ha4 := w2.1.2.1
      refine Tot.bind (hR.e q2 0 (hs4.ri hr) (by omega) (by omega) (by omega)) fun x3 g3 => ?_
      have ha5 := g3.1.2.1
      exact Tot.some ⟨hs4.trans g3.1, (EB.three (g1.2.mono (by omega)) (g2.2.mono (by omega)) (g3.2.mono (by omega)) : EB ((x3.2.at_ - r.at_).toNat + 1) _)⟩
  have hk0 : k ≠ 0 := by simpa using hk
  refine Tot.ite (fun hk3 => ?_) fun _ => ?_
  · simp at hk3
    subst hk3
    refine Tot.bind (pj hr _) fun t ht => Tot.ite (fun hp => ?_) fun hp => ?_
    · have hc := ht.2.1 hp
      have hl := Bt hr ht.1 hc
      refine Tot.bind (hR.e t.2 3 (ht.1.ri hr) (by omega) (by omega) (by omega)) fun x g => ?_
      have ha := g.1.2.1
      exact Tot.some ⟨ht.1.trans g.1, (EB.one (g.2.mono (by omega)) : EB ((x.2.at_ - r.at_).toNat + 1) _)⟩
    · have e1 : t.2 = r := ht.2.2.2 (by simpa using hp)
      rw [e1]
      exact Tot.bind (hR.e r 4 hr (by omega) (by omega) (by omega)) fun v hv => Tot.some hv
  refine Tot.ite (fun hk7 => ?_) fun hk7 => ?_
  · simp at hk7
    subst hk7
    exact Tot.bind (hR.f r hr (by omega)) fun v hv => Tot.some hv
  have hk7 : k ≠ 7 := by simpa using hk7
  have ek : i64 (k + 1) = k + 1 := ss h0 (by omega)
  rw [ek]
  refine Tot.bind (hR.e r (k + 1) hr (by omega) (by omega) (by omega)) fun x g => ?_
  refine Tot.loop (I := fun v : pensionref5_reader × (List Expr) × Expr × Expr => RS r v.1 ∧ EB ((v.1.at_ - r.at_).toNat + 1) v.2.2.2) (μ := fun v => left v.1) (s := (x.2, [], (⟨0, (⟨0, 0⟩ : Fraction), 0, ng, []⟩ : Expr), x.1)) g (by
    show left x.2 < _
    have := vg g.1
    have h8 := hr.2.2.1
    have h9 : left r ≤ 8000 := by unfold left; have := hr.1; omega
    omega) ?_
  intro rc v hI ih
  obtain ⟨g1, g2⟩ := hI
  have hv := g1.ri hr
  have hlv := vg g1
  unfold rd
  refine Tot.ite (fun _ => ?_) fun _ => Tot.some ⟨g1, g2⟩
  rw [ek]
  refine Tot.bind (Yr hv k) fun o ho => Tot.ite (fun _ => Tot.some ⟨g1, g2⟩) fun hno => ?_
  have hlt : v.1.at_ < (v.1.l.length : Int) := ho.resolve_left hno
  obtain ⟨e, hs⟩ := RS.next hv hlt
  rw [e]
  have hs1 := g1.trans hs
  have hl1 : left ⟨v.1.l, v.1.at_ + 1, v.1.end_, v.1.bad⟩ < left v.1 := Bt hv hs (by show v.1.at_ < v.1.at_ + 1; omega)
  refine Tot.bind (hR.e _ (k + 1) (hs1.ri hr) (by omega) (by omega) (by omega)) fun y gy => ?_
  have hs2 := hs1.trans gy.1
  have ha : v.1.at_ + 1 ≤ y.2.at_ := gy.1.2.1
  have ha0 := g1.2.1
  have hb := gy.2
  have hb : EB ((y.2.at_ - (v.1.at_ + 1)).toNat + 1) y.1 := hb
  have hE : EB ((y.2.at_ - r.at_).toNat + 1) (⟨o, (⟨0, 0⟩ : Fraction), 0, ng, [v.2.2.2, y.1]⟩ : Expr) := EB.two (g2.mono (by omega)) (hb.mono (by omega))
  refine Tot.ite (fun _ => Tot.some ⟨hs2, hE⟩) fun _ => ?_
  exact ih _ ⟨hs2, hE⟩ (by
    show left y.2 < left v.1
    have := vg gy.1
    omega)
end
theorem Ed : ∀ n, RB (ai n) n
  | 0 => ⟨fun _ _ _ _ _ h => by omega, fun _ _ h => by omega, fun _ _ _ _ h => by omega⟩
  | n + 1 => ⟨fun r k hr h0 h7 hn => a2e (Ed n) hr h0 h7 hn, fun r hr hn => U0 (Ed n) hr hn, fun r k hr hlt hn => a24 (Ed n) hr hlt k hn⟩
theorem H5 {r : pensionref5_reader} (hr : RI r) : Tot (el r 0) fun q => RS r q.2 ∧ EB 8001 q.1 := by
  have h8 := hr.2.2.1
  have h0 := hr.1
  have h9 : left r ≤ 8000 := by unfold left; omega
  unfold el
  refine ((Ed FU).e r 0 hr (by omega) (by omega) (by unfold FU; omega)).mono fun q hq => ⟨hq.1, hq.2.mono ?_⟩
  have := hq.1.2.2.1
  omega
end Go.PL
namespace Go.PL
open Go Go.SX
def LG (k : Int) (c : List Credit) (i : List Index) (l : List Let) (g : List Grant) (d : List Reduce) : Prop :=
  (c.length : Int) ≤ k ∧ (i.length : Int) ≤ k ∧ (l.length : Int) ≤ k ∧ (g.length : Int) ≤ k ∧ (d.length : Int) ≤ k ∧
  (∀ x ∈ l, x.Name.size ≤ 8000 ∧ EB 8001 x.Body) ∧ (∀ x ∈ g, EB 8001 x.If ∧ EB 8001 x.Pay) ∧ ∀ x ∈ d, EB 8001 x.By
theorem LG.up {k m : Int} {c : List Credit} {i : List Index} {l : List Let} {g : List Grant} {d : List Reduce} (h : LG k c i l g d) (hm : k ≤ m) : LG m c i l g d := by
  obtain ⟨h1, h2, h3, h4, h5, r⟩ := h
  exact ⟨by omega, by omega, by omega, by omega, by omega, r⟩
theorem H8 {α : Type} {l : List α} {a x : α} (h : x ∈ l ++ [a]) : x ∈ l ∨ x = a := by
  rcases List.mem_append.1 h with h | h
  · exact .inl h
  · exact .inr (List.mem_singleton.1 h)
def CQ (r : pensionref5_reader) (q : pensionref5_reader × Version × (List Credit) × (List Index) × (List Let) × (List Grant) × (List Reduce)) : Prop := RS r q.1 ∧ (r.at_ < q.1.at_ ∨ q.1.bad = true) ∧ LG q.1.at_ q.2.2.1 q.2.2.2.1 q.2.2.2.2.1 q.2.2.2.2.2.1 q.2.2.2.2.2.2
section
variable {r p : pensionref5_reader} {c : List Credit} {i : List Index} {l : List Let} {g : List Grant} {d : List Reduce}
theorem Qj (hr : RI r) (hs : RS r p) : p.at_ ≤ 8000 := by
  have := hs.2.2.1
  have := hr.2.2.1
  omega
theorem A6 (hr : RI r) (hs : RS r p) {k : Int} (hk : r.at_ ≤ k) (hp : k < p.at_) {v : Version} {c' : List Credit} {i' : List Index} {l' : List Let} {g' : List Grant} {d' : List Reduce} (hL : LG (k + 1) c' i' l' g' d') (s : ByteArray) :
    Tot (Option.bind (ab p s) fun q => some (q, v, c', i', l', g', d')) (CQ r) := by
  refine Tot.bind (gj (hs.ri hr) s) fun q hq => Tot.some ⟨hs.trans hq.1, .inl ?_, hL.up ?_⟩
  · have := hq.1.2.1
    show r.at_ < q.at_
    omega
  · have := hq.1.2.1
    show k + 1 ≤ q.at_
    omega
theorem Qn (hr : RI r) (hs : RS r p) (hp : r.at_ < p.at_) (hL : LG r.at_ c i l g d) (v : Version) (x : Credit) : Tot (fk (p, c, i, l, g, d, v, x)) (CQ r) := by
  have h8 := Qj hr hs
  obtain ⟨h1, h2, h3, h4, h5, hR⟩ := hL
  unfold fk
  refine Tot.bind (mj (by simp; omega)) fun a ha => ?_
  subst ha
  exact A6 hr hs (Int.le_refl _) hp ⟨by simp; omega, by show (i.length : Int) ≤ _; omega, by show (l.length : Int) ≤ _; omega, by show (g.length : Int) ≤ _; omega, by show (d.length : Int) ≤ _; omega, hR⟩ _
theorem Qw (hr : RI r) (hs : RS r p) (hp : r.at_ < p.at_) (hL : LG r.at_ c i l g d) (v : Version) (x : Index) : Tot (fo (p, c, i, l, g, d, v, x)) (CQ r) := by
  have h8 := Qj hr hs
  obtain ⟨h1, h2, h3, h4, h5, hR⟩ := hL
  unfold fo
  refine Tot.bind (mj (by simp; omega)) fun a ha => ?_
  subst ha
  exact A6 hr hs (Int.le_refl _) hp ⟨by show (c.length : Int) ≤ _; omega, by simp; omega, by show (l.length : Int) ≤ _; omega, by show (g.length : Int) ≤ _; omega, by show (d.length : Int) ≤ _; omega, hR⟩ _
theorem Kl (hr : RI r) (hs : RS r p) (hp : r.at_ < p.at_) (hL : LG r.at_ c i l g d) (v : Version) (x : Index) : Tot (dv (p, c, i, l, g, d, v, x)) (CQ r) := by
  unfold dv
  refine Tot.ite (fun _ => ?_) fun _ => Tot.join (Qw hr hs hp hL _ _)
  rw [Fo, Option.bind_some]
  exact Tot.join (Qw hr (hs.trans (RS.bad (hs.ri hr))) hp hL _ _)
theorem Zd (hr : RI r) (hL : LG r.at_ c i l g d) (v : Version) : Tot (il r v c i l g d) (CQ r) := by
  unfold il
  have h0 := hr.1
  refine Tot.bind (pj hr _) fun t1 h1 => Tot.ite (fun hp => ?_) fun hp => ?_
  · have hc := h1.2.1 hp
    refine Tot.bind (Wj (h1.1.ri hr) (by omega) (by omega)) fun q1 g1 => ?_
    have hs1 := h1.1.trans g1.1
    have ha1 := g1.1.2.1
    refine Tot.bind (pj (hs1.ri hr) _) fun t2 h2 => ?_
    have hs2 := hs1.trans h2.1
    have ha2 := h2.1.2.1
    refine Tot.ite (fun _ => ?_) fun _ => Tot.join (Qn hr hs2 (by omega) hL _ _)
    refine Tot.bind (Be (hs2.ri hr) _ _) fun q2 g2 => ?_
    have ha3 := g2.1.2.1
    exact Tot.join (Qn hr (hs2.trans g2.1) (by omega) hL _ _)
  have e1 : t1.2 = r := h1.2.2.2 (by simpa using hp)
  rw [e1]
  refine Tot.bind (pj hr _) fun t2 h2 => Tot.ite (fun hp => ?_) fun hp => ?_
  · have hc := h2.2.1 hp
    refine Tot.bind (Be (h2.1.ri hr) _ _) fun q1 g1 => ?_
    have hs1 := h2.1.trans g1.1
    have ha1 := g1.1.2.1
    have hr1 := hs1.ri hr
    refine Tot.bind (C1 hr1 2) fun b hb => Tot.ite (fun hp => ?_) fun _ => Tot.join (Kl hr hs1 (by omega) hL _ _)
    have hlt := (hb hp).2
    refine Tot.bind (dh hr1.1 hlt) fun x hx => Tot.bind (Da (hr1.2.2.2 x hx).2) fun f _ => ?_
    simp only [bw, Option.bind_some]
    refine Tot.ite (fun _ => ?_) fun _ => Tot.join (Kl hr hs1 (by omega) hL _ _)
    obtain ⟨e, hs⟩ := RS.next hr1 hlt
    rw [e]
    exact Tot.join (Kl hr (hs1.trans hs) (by show r.at_ < q1.2.at_ + 1; omega) hL _ _)
  have e2 : t2.2 = r := h2.2.2.2 (by simpa using hp)
  rw [e2]
  refine Tot.bind (pj hr _) fun t3 h3 => Tot.ite (fun hp => ?_) fun hp => ?_
  · have hc := h3.2.1 hp
    refine Tot.bind (N7 (h3.1.ri hr)) fun q1 g1 => ?_
    have hs1 := h3.1.trans g1.1
    have ha1 := g1.1.2.1
    refine Tot.bind (gj (hs1.ri hr) _) fun q2 g2 => ?_
    have hs2 := hs1.trans g2.1
    have ha2 := g2.1.2.1
    refine Tot.bind (H5 (hs2.ri hr)) fun q3 g3 => ?_
    have hs3 := hs2.trans g3.1
    have ha3 := g3.1.2.1
    obtain ⟨k1, k2, k3, k4, k5, k6, k7, k8⟩ := hL
    have h8 := Qj hr hs3
    refine Tot.bind (mj (by simp; omega)) fun a ha => ?_
    subst ha
    exact A6 hr hs3 (Int.le_refl _) (by omega) ⟨by omega, by omega, by simp; omega, by omega, by omega, fun x hx => (H8 hx).elim (k6 x) fun e => by subst e; exact ⟨g1.2.1, g3.2⟩, k7, k8⟩ _
  have e3 : t3.2 = r := h3.2.2.2 (by simpa using hp)
  rw [e3]
  refine Tot.bind (pj hr _) fun t4 h4 => Tot.ite (fun hp => ?_) fun hp => ?_
  · have hc := h4.2.1 hp
    refine Tot.bind (Wj (h4.1.ri hr) (by omega) (by omega)) fun q1 g1 => ?_
    have hs1 := h4.1.trans g1.1
    have ha1 := g1.1.2.1
    refine Tot.bind (gj (hs1.ri hr) _) fun q2 g2 => ?_
    have hs2 := hs1.trans g2.1
    have ha2 := g2.1.2.1
    refine Tot.bind (H5 (hs2.ri hr)) fun q3 g3 => ?_
    have hs3 := hs2.trans g3.1
    have ha3 := g3.1.2.1
    refine Tot.bind (gj (hs3.ri hr) _) fun q4 g4 => ?_
    have hs4 := hs3.trans g4.1
    have ha4 := g4.1.2.1
    refine Tot.bind (H5 (hs4.ri hr)) fun q5 g5 => ?_
    have hs5 := hs4.trans g5.1
    have ha5 := g5.1.2.1
    obtain ⟨k1, k2, k3, k4, k5, k6, k7, k8⟩ := hL
    have h8 := Qj hr hs5
    refine Tot.bind (mj (by simp; omega)) fun a ha => ?_
    subst ha
    exact A6 hr hs5 (Int.le_refl _) (by omega) ⟨by omega, by omega, by omega, by simp; omega, by omega, k6, fun x hx => (H8 hx).elim (k7 x) fun e => by subst e; exact ⟨g3.2, g5.2⟩, k8⟩ _
  have e4 : t4.2 = r := h4.2.2.2 (by simpa using hp)
  rw [e4]
  refine Tot.bind (pj hr _) fun t5 h5 => Tot.ite (fun hp => ?_) fun hp => ?_
  · have hc := h5.2.1 hp
    refine Tot.bind (Wj (h5.1.ri hr) (by omega) (by omega)) fun q1 g1 => ?_
    have hs1 := h5.1.trans g1.1
    have ha1 := g1.1.2.1
    refine Tot.bind (gj (hs1.ri hr) _) fun q2 g2 => ?_
    have hs2 := hs1.trans g2.1
    have ha2 := g2.1.2.1
    refine Tot.bind (H5 (hs2.ri hr)) fun q3 g3 => ?_
    have hs3 := hs2.trans g3.1
    have ha3 := g3.1.2.1
    obtain ⟨k1, k2, k3, k4, k5, k6, k7, k8⟩ := hL
    have h8 := Qj hr hs3
    refine Tot.bind (mj (by simp; omega)) fun a ha => ?_
    subst ha
    exact A6 hr hs3 (Int.le_refl _) (by omega) ⟨by omega, by omega, by omega, by omega, by simp; omega, k6, k7, fun x hx => (H8 hx).elim (k8 x) fun e => by subst e; exact g3.2⟩ _
  have e5 : t5.2 = r := h5.2.2.2 (by simpa using hp)
  rw [e5, Fo, Option.bind_some]
  have hsb := RS.bad hr
  refine Tot.bind (gj (hsb.ri hr) _) fun q hq => Tot.some ⟨hsb.trans hq.1, .inr (hq.1.2.2.2 rfl), hL.up ?_⟩
  exact (hsb.trans hq.1).2.1
end
def VG (v : Version) : Prop := LG 8000 v.Credits v.Series v.Lets v.Grants v.Reduces
theorem Ux {r : pensionref5_reader} (hr : RI r) : Tot (gn r) fun q => RS r q.2 ∧ (r.at_ < q.2.at_ ∨ q.2.bad = true) ∧ VG q.1 := by
  have j : ∀ (p : pensionref5_reader) (v w : Version), RS r p → (r.at_ < p.at_ ∨ p.bad = true) → Tot (ew (p, [], [], [], [], [], v, [], [], [], [], [], w)) fun q => RS r q.2 ∧ (r.at_ < q.2.at_ ∨ q.2.bad = true) ∧ VG q.1 := by
    intro p v w hs hpr
    have tr : ∀ {x y : pensionref5_reader}, (r.at_ < x.at_ ∨ x.bad = true) → RS x y → (r.at_ < y.at_ ∨ y.bad = true) := fun h hxy => h.imp (fun h => by have := hxy.2.1; omega) hxy.2.2.2
    unfold ew
    refine Tot.bind (gj (hs.ri hr) _) fun q1 g1 => ?_
    have hs1 := hs.trans g1.1
    refine Tot.bind (gj (hs1.ri hr) _) fun q2 g2 => ?_
    have hs2 := hs1.trans g2.1
    refine Tot.bind (Wj (hs2.ri hr) (by omega) (by omega)) fun q3 g3 => ?_
    have hs3 := hs2.trans g3.1
    refine Tot.bind (Be (hs3.ri hr) _ _) fun q4 g4 => ?_
    have hs4 := hs3.trans g4.1
    refine Tot.bind (gj (hs4.ri hr) _) fun q5 g5 => ?_
    have hs5 := hs4.trans g5.1
    have hp5 := tr (tr (tr (tr (tr hpr g1.1) g2.1) g3.1) g4.1) g5.1
    have h0 := (hs5.ri hr).1
    refine Tot.loop (σ := pensionref5_reader × (List Credit) × (List Index) × (List Let) × (List Grant) × (List Reduce) × Version × (List Credit) × (List Index) × (List Let) × (List Grant) × (List Reduce) × Version)
      (I := fun v => RS r v.1 ∧ (r.at_ < v.1.at_ ∨ v.1.bad = true) ∧ LG v.1.at_ v.2.2.2.2.2.2.2.1 v.2.2.2.2.2.2.2.2.1 v.2.2.2.2.2.2.2.2.2.1 v.2.2.2.2.2.2.2.2.2.2.1 v.2.2.2.2.2.2.2.2.2.2.2.1) (μ := fun v => 2 * left v.1 + (if v.1.bad = true then 0 else 1))
      ⟨hs5, hp5, h0, h0, h0, h0, h0, (fun x hx => by cases hx), (fun x hx => by cases hx), fun x hx => by cases hx⟩ (by
        show 2 * left q5 + (if q5.bad = true then 0 else 1) < _
        have h9 := vg hs5
        have h8 := hr.2.2.1
        have h10 : left r ≤ 8000 := by unfold left; have := hr.1; omega
        split <;> omega) ?_
    intro rc v hI ih
    obtain ⟨i1, i2, i3⟩ := hI
    have hv := i1.ri hr
    unfold o8
    refine Tot.ite (fun hb => ?_) fun hb => Tot.some ⟨i1, i2, i3.up (Qj hr i1)⟩
    have hb : v.1.bad = false := by simpa using hb
    refine Tot.bind (pj hv _) fun t ht => Tot.ite (fun hp => ?_) fun hp => Tot.some ⟨i1.trans ht.1, tr i2 ht.1, i3.up (Qj hr i1)⟩
    have e1 : t.2 = v.1 := ht.2.2.2 (by simpa using hp)
    rw [e1]
    refine Tot.bind (Zd hv i3 _) fun q hq => ?_
    refine ih _ ⟨i1.trans hq.1, tr i2 hq.1, hq.2.2⟩ ?_
    show 2 * left q.1 + (if q.1.bad = true then 0 else 1) < 2 * left v.1 + (if v.1.bad = true then 0 else 1)
    rw [hb]
    rcases hq.2.1 with h | h
    · have := Bt hv hq.1 h
      split <;> simp <;> omega
    · have := vg hq.1
      rw [h]
      simp
      omega
  unfold gn
  refine Tot.bind (gj hr _) fun q1 g1 => ?_
  have hr1 := g1.1.ri hr
  refine Tot.bind (C1 hr1 3) fun b hb => Tot.ite (fun hp => ?_) fun _ => ?_
  · have hlt := (hb hp).2
    refine Tot.bind (dh hr1.1 hlt) fun t ht => Tot.bind (a4o (hr1.2.2.2 t ht).1 (hr1.2.2.2 t ht).2) fun y _ => ?_
    obtain ⟨e, hs⟩ := RS.next hr1 hlt
    rw [e]
    exact Tot.join (j _ _ _ (g1.1.trans hs) (.inl (by show r.at_ < q1.at_ + 1; have := g1.1.2.1; omega)))
  · rw [Fo, Option.bind_some]
    exact Tot.join (j _ _ _ (g1.1.trans (RS.bad hr1)) (.inr rfl))
end Go.PL
namespace Go.PL
open Go Go.SX
theorem Pc (a : Int) : Tot (bz a) fun _ => True := by
  unfold bz
  rw [bw, Option.bind_some]
  exact Tot.some trivial
theorem Dw (a : Rounding) : Tot (ik a) fun _ => True := by
  unfold ik
  simp only [bw, Option.bind_some]
  exact Tot.some trivial
theorem Fa (a b : Int) : Tot (j5 a b) fun _ => True := by
  unfold j5
  refine Tot.loop (I := fun v : List ByteArray × Int => v.1.length = 15 ∧ 0 ≤ v.2) (μ := fun v => (15 - v.2).toNat) ⟨rfl, Int.le_refl _⟩ (by decide) ?_
  intro r v hI ih
  obtain ⟨g1, g2⟩ := hI
  unfold wq
  rw [bw, Option.bind_some]
  refine Tot.ite (fun h => ?_) fun _ => Tot.some trivial
  simp at h
  obtain ⟨x, hx, _⟩ := dh (l := v.1) g2 h.1
  simp only [hx, Option.bind_some]
  refine Tot.bind (Q := fun _ => True) (Tot.ite (fun _ => Tot.bind (Ww x) fun _ _ => Tot.some trivial) fun _ => Tot.some trivial) fun p1 _ => ?_
  refine Tot.bind (Q := fun _ => True) (Tot.ite (fun _ => Tot.some trivial) fun _ => Tot.bind (Q := fun _ => True) (Tot.ite (fun _ => Tot.bind (Km x) fun _ _ => Tot.some trivial) fun _ => Tot.some trivial) fun _ _ => Tot.some trivial) fun p2 _ => ?_
  refine Tot.bind (Q := fun _ => True) (Tot.ite (fun _ => Tot.some trivial) fun _ => Tot.bind (Q := fun _ => True) (Tot.ite (fun _ => Tot.bind (X1 x) fun _ _ => Tot.some trivial) fun _ => Tot.some trivial) fun _ _ => Tot.some trivial) fun p3 _ => ?_
  refine Tot.ite (fun _ => Tot.some trivial) fun _ => ?_
  rw [ss g2 (by omega)]
  exact ih (v.1, v.2 + 1) ⟨g1, by show 0 ≤ v.2 + 1; omega⟩ (by show (15 - (v.2 + 1)).toNat < (15 - v.2).toNat; omega)
theorem zn (f : Fraction) : Tot (eu f) fun b => b = true → 1 ≤ f.Den ∧ f.Den ≤ 1000000000 ∧ -1000000000000000 ≤ f.Num ∧ f.Num ≤ 1000000000000000 := by
  unfold eu
  simp only [bw, Option.bind_some]
  refine Tot.bind (Q := fun b => b = true → 1 ≤ f.Den ∧ f.Den ≤ 1000000000 ∧ -1000000000000000 ≤ f.Num ∧ f.Num ≤ 1000000000000000) (Tot.ite (fun h => ?_) fun _ => Tot.some fun h => by cases h) fun b hb => Tot.some hb
  simp at h
  obtain ⟨x, hx, x0, x1, _⟩ := Hb f.Num
  rw [hx, Option.bind_some, a3p (by omega) (by omega)]
  exact Tot.bind (Xf x0 (by omega) (by omega) x1 (by omega)) fun _ _ => Tot.some fun _ => ⟨by omega, by omega, by omega, by omega⟩
theorem Tu {n : Int} (h0 : 0 ≤ n) (h1 : n ≤ 1000000000000000) : Tot (lp n 1) fun r => (r.size : Int) ≤ n + 1 := by
  unfold lp
  have hs : m7.size = 10 := by decide
  refine Tot.loop (I := fun v : Int × ByteArray => 0 ≤ v.1 ∧ v.1 ≤ n ∧ v.1 + (v.2.size : Int) ≤ n + 1) (μ := fun v => 2 * v.1.toNat + (1 - v.2.size)) (s := (n, ng)) ⟨h0, Int.le_refl _, by show n + (ng.size : Int) ≤ n + 1; rw [show ng.size = 0 from rfl]; omega⟩ (by show 2 * n.toNat + (1 - ng.size) < _; omega) ?_
  intro r v hI ih
  obtain ⟨g1, g2, g3⟩ := hI
  unfold wa
  rw [dl, Option.bind_some]
  refine Tot.ite (fun h => ?_) fun _ => Tot.some (by omega)
  simp at h
  refine Tot.bind (qf g1 (by omega)) fun a ha => Tot.bind (qf g1 (by omega)) fun b hb => ?_
  have hab : a = b := by omega
  subst hab
  rw [ss (by omega) (by omega)]
  refine Tot.bind (nh (by omega) (by omega) (by rw [hs]; omega)) fun c hc => Tot.bind (ao (by omega)) fun d hd => Tot.bind (vq g1 (by omega) (by omega)) fun e he => ?_
  refine ih (e, d) ⟨he.2.1, by show e ≤ n; omega, by show e + (d.size : Int) ≤ n + 1; omega⟩ (by show 2 * e.toNat + (1 - d.size) < 2 * v.1.toNat + (1 - v.2.size); omega)
theorem Df {n : Int} (h0 : 0 ≤ n) (h1 : n ≤ 999999999) : Tot (gi ⟨n, 1⟩) fun r => r.size ≤ 1000000000 := by
  unfold gi
  refine Tot.bind (zn _) fun b _ => Tot.ite (fun _ => Tot.some (by decide)) fun _ => ?_
  obtain ⟨x, hx, x0, x1, x2⟩ := Hb n
  have := x2 h0 (by omega)
  subst this
  dsimp only
  rw [hx, Option.bind_some, au (by omega) (by omega)]
  refine Tot.bind (Tu h0 (by omega)) fun d hd => ?_
  rw [if_neg (by simp; omega)]
  refine Tot.join ?_
  unfold jc
  rw [if_neg (by simp)]
  exact Tot.some (by show d.size ≤ _; omega)
theorem Af (f : Fraction) (k : Int) : Tot (et f k) fun _ => True := by
  have fin : ∀ (s : ByteArray) (m : Int), s.size ≤ 1000000010 → 0 ≤ m → m < 10000 → 2 ≤ k → k ≤ 4 → Tot (fj (k, s, m)) fun _ => True := by
    intro s m hs m0 m1 k0 k1
    unfold fj
    have h9 : m7.size = 10 := by decide
    refine Tot.loop (I := fun v : ByteArray × Int × Int => 0 ≤ v.2.1 ∧ 0 ≤ v.2.2 ∧ (v.1.size : Int) + v.2.2 ≤ 1000001010 ∧ ((v.2.2 = 1000 ∧ v.2.1 < 10000) ∨ (v.2.2 = 100 ∧ v.2.1 < 1000) ∨ (v.2.2 = 10 ∧ v.2.1 < 100) ∨ (v.2.2 = 1 ∧ v.2.1 < 10) ∨ v.2.1 = 0)) (μ := fun v => v.2.2.toNat) (s := (s, m, 1000)) ⟨m0, by show (0 : Int) ≤ 1000; omega, by show (s.size : Int) + 1000 ≤ _; omega, .inl ⟨rfl, m1⟩⟩ (by show (1000 : Int).toNat < _; omega) ?_
    intro r v hI ih
    obtain ⟨g1, g2, g3, g4⟩ := hI
    unfold p6
    refine Tot.ite (fun h => ?_) fun _ => ?_
    · simp at h
      have hp : 0 < v.2.2 := by omega
      have hq : v.2.1 / v.2.2 ≤ 9 := by
        rcases g4 with ⟨e, _⟩ | ⟨e, _⟩ | ⟨e, _⟩ | ⟨e, _⟩ | e
        · rw [e]; omega
        · rw [e]; omega
        · rw [e]; omega
        · rw [e]; omega
        · omega
      obtain ⟨q, hq0, hq1, hq2, _⟩ := vq (a := v.2.1) (b := v.2.2) g1 (by omega) hp
      simp only [hq0, Option.bind_some]
      rw [ss hq2 (by omega)]
      refine Tot.bind (nh hq2 (by omega) (by rw [h9]; omega)) fun c hc => Tot.bind (ao (by omega)) fun d hd => Tot.bind (qf g1 hp) fun e he => Tot.bind (vq (a := v.2.2) (b := 10) g2 (by omega) (by omega)) fun z hz => ?_
      refine ih (d, e, z) ⟨he.2.1, hz.2.1, by show (d.size : Int) + z ≤ _; omega, ?_⟩ (by show z.toNat < v.2.2.toNat; omega)
      show (z = 1000 ∧ e < 10000) ∨ (z = 100 ∧ e < 1000) ∨ (z = 10 ∧ e < 100) ∨ (z = 1 ∧ e < 10) ∨ e = 0
      omega
    · have e1 : i64 (k - 2) = k - 2 := au (by omega) (by omega)
      rw [e1]
      refine Tot.bind (dh (l := [ng, a7f, a8h]) (by omega) (by simp; omega)) fun _ _ => Tot.bind (dh (l := [ng, a7f, a8h]) (by omega) (by simp; omega)) fun x hx => ?_
      have hx1 : x.size ≤ 1 := by
        simp at hx
        rcases hx with rfl | rfl | rfl <;> decide
      exact Tot.bind (ao (by omega)) fun _ _ => Tot.some trivial
  unfold et
  refine Tot.bind (zn f) fun b hb => ?_
  rw [dl, Option.bind_some]
  refine Tot.bind (Q := fun c => c = false → b = true ∧ 0 ≤ f.Num ∧ ∃ x, Di 10000 f.Den = some x ∧ x = 0) (Tot.ite (fun _ => Tot.some fun h => by cases h) fun hn => ?_) fun c hc => ?_
  · have hn : b = true ∧ 0 ≤ f.Num := by simpa using hn
    have hd := hb hn.1
    obtain ⟨x, hx, _⟩ := qf (a := 10000) (b := f.Den) (by omega) (by omega)
    rw [hx, Option.bind_some]
    exact Tot.some fun hh => ⟨hn.1, hn.2, x, rfl, by simpa using hh⟩
  simp only [dl, Option.bind_some]
  refine Tot.ite (fun _ => Tot.some trivial) fun hn => ?_
  simp at hn
  obtain ⟨⟨hc1, hk0⟩, hk1⟩ := hn
  obtain ⟨b1, n0, x, hx, x0⟩ := hc hc1
  obtain ⟨d0, d1, _, n1⟩ := hb b1
  have hmod : 10000 % f.Den = 0 := by
    rw [F4 (by omega), J4 (by omega)] at hx
    rw [← x0]; exact Option.some.inj hx
  refine Tot.bind (vq n0 (by omega) (by omega)) fun q hq => Tot.ite (fun _ => Tot.some trivial) fun hn => ?_
  have hq9 : q ≤ 999999999 := by simp at hn; omega
  refine Tot.bind (Df hq.2.1 hq9) fun s hs => Tot.bind (vq (a := 10000) (b := f.Den) (by omega) (by omega) (by omega)) fun z hz => ?_
  have hqd : q * f.Den ≤ f.Num := by rw [hq.1]; exact Int.ediv_mul_le _ (by omega)
  have hqd0 : 0 ≤ q * f.Den := Int.mul_nonneg hq.2.1 (by omega)
  have hrd : f.Num - q * f.Den < f.Den := by
    have := Int.lt_ediv_add_one_mul_self f.Num (b := f.Den) (by omega)
    rw [hq.1]
    rw [Int.add_mul, Int.one_mul] at this
    omega
  have hzd : f.Den * z = 10000 := by
    rw [hz.1]
    have := Int.emod_add_mul_ediv 10000 f.Den
    omega
  have hr0 : 0 ≤ f.Num - q * f.Den := by omega
  have hX0 : 0 ≤ (f.Num - q * f.Den) * z := Int.mul_nonneg hr0 hz.2.1
  have hX1 : (f.Num - q * f.Den) * z < 10000 := by
    rw [← hzd]
    have hz1 : 0 < z := by
      rcases Int.lt_or_eq_of_le hz.2.1 with h | h
      · exact h
      · rw [← h] at hzd; simp at hzd
    exact Int.mul_lt_mul_of_pos_right hrd hz1
  have e1 : i64 (q * f.Den) = q * f.Den := au (by omega) (by omega)
  have e2 : i64 (f.Num - q * f.Den) = f.Num - q * f.Den := au (by omega) (by omega)
  have e3 : i64 ((f.Num - q * f.Den) * z) = (f.Num - q * f.Den) * z := au (by omega) (by omega)
  rw [e1, e2, e3]
  refine Tot.ite (fun _ => ?_) fun _ => Tot.join (fin _ _ (by omega) hX0 hX1 (by omega) (by omega))
  refine Tot.bind (ao (by rw [show J9.size = 1 from rfl]; omega)) fun d hd => Tot.join (fin _ _ (by rw [show J9.size = 1 from rfl] at hd; omega) hX0 hX1 (by omega) (by omega))
theorem T7 : ∀ (n m : Nat) (e : Expr), n ≤ m → EB n e → Tot ((cp m).f_pensionref5_Depth e) fun _ => True
  | 0, _, _, _, h => h.elim
  | n + 1, 0, _, hm, _ => by omega
  | n + 1, m + 1, e, hm, h => by
    show Tot (o4 (cp m) e) _
    unfold o4
    refine Tot.loop (I := fun v : Expr × Int × Int => v.1 = e ∧ 0 ≤ v.2.2) (μ := fun v => (3 - v.2.2).toNat) ⟨rfl, Int.le_refl _⟩ (by show (3 - 0 : Int).toNat < _; omega) ?_
    intro r v hI ih
    obtain ⟨g1, g2⟩ := hI
    have hl := h.1
    unfold xd
    rw [g1]
    refine Tot.ite (fun hc => ?_) fun _ => Tot.some trivial
    simp at hc
    refine Tot.bind (dh g2 hc) fun x hx => Tot.bind (T7 n m x (by omega) (h.2.2 x hx)) fun _ _ => ?_
    rw [ss g2 (by omega)]
    exact ih (e, _, v.2.2 + 1) ⟨rfl, by show 0 ≤ v.2.2 + 1; omega⟩ (by show (3 - (v.2.2 + 1)).toNat < (3 - v.2.2).toNat; omega)
theorem W4 : ∀ (n m : Nat) (e : Expr), n ≤ m → EB n e → Tot ((d4 m).f_pensionref5_Size e) fun _ => True
  | 0, _, _, _, h => h.elim
  | n + 1, 0, _, hm, _ => by omega
  | n + 1, m + 1, e, hm, h => by
    show Tot (pm (d4 m) e) _
    unfold pm
    refine Tot.loop (I := fun v : Expr × Int × Int => v.1 = e ∧ 0 ≤ v.2.2) (μ := fun v => (3 - v.2.2).toNat) ⟨rfl, Int.le_refl _⟩ (by show (3 - 0 : Int).toNat < _; omega) ?_
    intro r v hI ih
    obtain ⟨g1, g2⟩ := hI
    have hl := h.1
    unfold yh
    rw [g1]
    refine Tot.ite (fun hc => ?_) fun _ => Tot.some trivial
    simp at hc
    refine Tot.bind (dh g2 hc) fun x hx => Tot.bind (W4 n m x (by omega) (h.2.2 x hx)) fun _ _ => ?_
    rw [ss g2 (by omega)]
    exact ih (e, _, v.2.2 + 1) ⟨rfl, by show 0 ≤ v.2.2 + 1; omega⟩ (by show (3 - (v.2.2 + 1)).toNat < (3 - v.2.2).toNat; omega)
theorem Mc : ∀ (n m : Nat) (e : Expr), n ≤ m → EB n e → Tot ((ck m).f_pensionref5_formed e) fun _ => True
  | 0, _, _, _, h => h.elim
  | n + 1, 0, _, hm, _ => by omega
  | n + 1, m + 1, e, hm, h => by
    show Tot (ml (ck m) e) _
    unfold ml
    simp only [bw, Option.bind_some]
    refine Tot.bind (Wd _) fun k _ => Tot.ite (fun _ => Tot.some trivial) fun _ => Tot.ite (fun _ => ?_) fun _ => Tot.ite (fun _ => ?_) fun _ => Tot.ite (fun _ => Tot.some trivial) fun _ => ?_
    · exact Tot.bind (Af _ _) fun q _ => Tot.some trivial
    · exact Tot.bind (Q := fun _ => True) (Tot.ite (fun _ => Tot.bind (Bz h.2.1) fun _ _ => Tot.some trivial) fun _ => Tot.some trivial) fun _ _ => Tot.some trivial
    refine Tot.loop (I := fun v : Expr × Int => v.1 = e ∧ 0 ≤ v.2) (μ := fun v => (3 - v.2).toNat) ⟨rfl, Int.le_refl _⟩ (by show (3 - 0 : Int).toNat < _; omega) ?_
    intro r v hI ih
    obtain ⟨g1, g2⟩ := hI
    have hl := h.1
    unfold wh
    rw [g1]
    refine Tot.ite (fun hc => ?_) fun _ => Tot.some trivial
    simp at hc
    refine Tot.bind (dh g2 hc) fun x hx => Tot.bind (Mc n m x (by omega) (h.2.2 x hx)) fun _ _ => Tot.ite (fun _ => Tot.some trivial) fun _ => ?_
    rw [ss g2 (by omega)]
    exact ih (e, v.2 + 1) ⟨rfl, by show 0 ≤ v.2 + 1; omega⟩ (by show (3 - (v.2 + 1)).toNat < (3 - v.2).toNat; omega)
theorem xw {e : Expr} (h : EB 8001 e) : Tot (e7 e) fun _ => True := by
  unfold e7
  have hF : 8001 ≤ FU := by unfold FU; omega
  refine Tot.bind (T7 _ _ e hF h) fun d _ => ?_
  refine Tot.bind (Q := fun _ => True) (Tot.ite (fun _ => Tot.bind (W4 _ _ e hF h) fun _ _ => Tot.some trivial) fun _ => Tot.some trivial) fun _ _ => ?_
  exact Tot.bind (Q := fun _ => True) (Tot.ite (fun _ => Tot.bind (Mc _ _ e hF h) fun _ _ => Tot.some trivial) fun _ => Tot.some trivial) fun _ _ => Tot.some trivial
end Go.PL
namespace Go.PL
open Go Go.SX
theorem Gv {v : Version} (hv : VG v) : Tot (j8 v) fun _ => True := by
  obtain ⟨k1, k2, k3, k4, k5, kL, kG, kR⟩ := hv
  have l5 : Tot (am FU kl (v, 0)) fun _ => True := by
    refine Tot.loop (I := fun s : Version × Int => s.1 = v ∧ 0 ≤ s.2) (μ := fun s => ((v.Reduces.length : Int) - s.2).toNat) ⟨rfl, Int.le_refl _⟩ (by show ((v.Reduces.length : Int) - 0).toNat < _; omega) ?_
    intro r s hI ih
    obtain ⟨g1, g2⟩ := hI
    unfold kl
    rw [g1]
    refine Tot.ite (fun hc => ?_) fun _ => Tot.some trivial
    simp at hc
    obtain ⟨x, hx, hm⟩ := dh g2 hc
    simp only [hx, Option.bind_some]
    refine Tot.bind (Fa _ _) fun w _ => ?_
    refine Tot.bind (Q := fun _ => True) (Tot.ite (fun _ => Tot.some trivial) fun _ => Tot.bind (xw (kR x hm)) fun _ _ => Tot.some trivial) fun b _ => Tot.ite (fun _ => Tot.some trivial) fun _ => ?_
    rw [ss g2 (by omega)]
    exact ih (v, s.2 + 1) ⟨rfl, by show 0 ≤ s.2 + 1; omega⟩ (by show ((v.Reduces.length : Int) - (s.2 + 1)).toNat < ((v.Reduces.length : Int) - s.2).toNat; omega)
  have l4 : Tot (am FU k9 (v, 0)) fun _ => True := by
    refine Tot.loop (I := fun s : Version × Int => s.1 = v ∧ 0 ≤ s.2) (μ := fun s => ((v.Grants.length : Int) - s.2).toNat) ⟨rfl, Int.le_refl _⟩ (by show ((v.Grants.length : Int) - 0).toNat < _; omega) ?_
    intro r s hI ih
    obtain ⟨g1, g2⟩ := hI
    unfold k9
    rw [g1]
    refine Tot.ite (fun hc => ?_) fun _ => l5
    simp at hc
    obtain ⟨x, hx, hm⟩ := dh g2 hc
    simp only [hx, Option.bind_some]
    refine Tot.bind (Fa _ _) fun w _ => ?_
    refine Tot.bind (Q := fun _ => True) (Tot.ite (fun _ => Tot.some trivial) fun _ => Tot.bind (xw (kG x hm).1) fun _ _ => Tot.some trivial) fun b _ => ?_
    refine Tot.bind (Q := fun _ => True) (Tot.ite (fun _ => Tot.some trivial) fun _ => Tot.bind (xw (kG x hm).2) fun _ _ => Tot.some trivial) fun b _ => Tot.ite (fun _ => Tot.some trivial) fun _ => ?_
    rw [ss g2 (by omega)]
    exact ih (v, s.2 + 1) ⟨rfl, by show 0 ≤ s.2 + 1; omega⟩ (by show ((v.Grants.length : Int) - (s.2 + 1)).toNat < ((v.Grants.length : Int) - s.2).toNat; omega)
  have l3 : Tot (am FU ki (v, 0)) fun _ => True := by
    refine Tot.loop (I := fun s : Version × Int => s.1 = v ∧ 0 ≤ s.2) (μ := fun s => ((v.Lets.length : Int) - s.2).toNat) ⟨rfl, Int.le_refl _⟩ (by show ((v.Lets.length : Int) - 0).toNat < _; omega) ?_
    intro r s hI ih
    obtain ⟨g1, g2⟩ := hI
    unfold ki
    rw [g1]
    refine Tot.ite (fun hc => ?_) fun _ => l4
    simp at hc
    obtain ⟨x, hx, hm⟩ := dh g2 hc
    simp only [hx, Option.bind_some]
    refine Tot.bind (Bz (kL x hm).1) fun w _ => ?_
    refine Tot.bind (Q := fun _ => True) (Tot.ite (fun _ => Tot.some trivial) fun _ => Tot.bind (xw (kL x hm).2) fun _ _ => Tot.some trivial) fun b _ => Tot.ite (fun _ => Tot.some trivial) fun _ => ?_
    rw [ss g2 (by omega)]
    exact ih (v, s.2 + 1) ⟨rfl, by show 0 ≤ s.2 + 1; omega⟩ (by show ((v.Lets.length : Int) - (s.2 + 1)).toNat < ((v.Lets.length : Int) - s.2).toNat; omega)
  have l2 : Tot (am FU kd (v, 0)) fun _ => True := by
    refine Tot.loop (I := fun s : Version × Int => s.1 = v ∧ 0 ≤ s.2) (μ := fun s => ((v.Series.length : Int) - s.2).toNat) ⟨rfl, Int.le_refl _⟩ (by show ((v.Series.length : Int) - 0).toNat < _; omega) ?_
    intro r s hI ih
    obtain ⟨g1, g2⟩ := hI
    unfold kd
    rw [g1]
    refine Tot.ite (fun hc => ?_) fun _ => l3
    simp at hc
    obtain ⟨x, hx, hm⟩ := dh g2 hc
    simp only [hx, Option.bind_some]
    refine Tot.bind (Af _ _) fun w _ => ?_
    simp only [dl, Option.bind_some]
    refine Tot.ite (fun _ => Tot.some trivial) fun _ => ?_
    rw [ss g2 (by omega)]
    exact ih (v, s.2 + 1) ⟨rfl, by show 0 ≤ s.2 + 1; omega⟩ (by show ((v.Series.length : Int) - (s.2 + 1)).toNat < ((v.Series.length : Int) - s.2).toNat; omega)
  have l1 : Tot (am FU ke (v, 0)) fun _ => True := by
    refine Tot.loop (I := fun s : Version × Int => s.1 = v ∧ 0 ≤ s.2) (μ := fun s => ((v.Credits.length : Int) - s.2).toNat) ⟨rfl, Int.le_refl _⟩ (by show ((v.Credits.length : Int) - 0).toNat < _; omega) ?_
    intro r s hI ih
    obtain ⟨g1, g2⟩ := hI
    unfold ke
    rw [g1]
    refine Tot.ite (fun hc => ?_) fun _ => l2
    simp at hc
    obtain ⟨x, hx, hm⟩ := dh g2 hc
    simp only [hx, Option.bind_some]
    refine Tot.bind (Fa _ _) fun w _ => ?_
    simp only [dl, Option.bind_some]
    refine Tot.ite (fun _ => Tot.some trivial) fun _ => ?_
    rw [ss g2 (by omega)]
    exact ih (v, s.2 + 1) ⟨rfl, by show 0 ≤ s.2 + 1; omega⟩ (by show ((v.Credits.length : Int) - (s.2 + 1)).toNat < ((v.Credits.length : Int) - s.2).toNat; omega)
  unfold j8
  refine Tot.bind (Pc _) fun b _ => ?_
  refine Tot.bind (Q := fun _ => True) (Tot.ite (fun _ => Tot.some trivial) fun _ => Tot.bind (Dw _) fun _ _ => Tot.some trivial) fun b _ => ?_
  simp only [dl, Option.bind_some]
  exact Tot.ite (fun _ => Tot.some trivial) fun _ => l1
theorem Xy {s : Statute} (hn : s.Name.size ≤ 8000) (hl : s.Versions.length ≤ 8001) (hv : ∀ v ∈ s.Versions, VG v) : Tot (qj s) fun _ => True := by
  unfold qj
  refine Tot.bind (Bz hn) fun b _ => ?_
  simp only [dl, Option.bind_some]
  refine Tot.ite (fun _ => Tot.some trivial) fun _ => ?_
  refine Tot.loop (I := fun x : Statute × Int => x.1 = s ∧ 0 ≤ x.2) (μ := fun x => ((s.Versions.length : Int) - x.2).toNat) ⟨rfl, Int.le_refl _⟩ (by show ((s.Versions.length : Int) - 0).toNat < _; omega) ?_
  intro r x hI ih
  obtain ⟨g1, g2⟩ := hI
  unfold xi
  rw [g1]
  refine Tot.ite (fun hc => ?_) fun _ => Tot.some trivial
  simp at hc
  refine Tot.bind (dh g2 hc) fun v hm => Tot.bind (Gv (hv v hm)) fun _ _ => Tot.ite (fun _ => Tot.some trivial) fun _ => ?_
  rw [ss g2 (by omega)]
  exact ih (s, x.2 + 1) ⟨rfl, by show 0 ≤ x.2 + 1; omega⟩ (by show ((s.Versions.length : Int) - (x.2 + 1)).toNat < ((s.Versions.length : Int) - x.2).toNat; omega)
theorem a0i (s : ByteArray) : Tot (qi s) fun q => (∃ r, q.1 = some r ∧ RI r) ∨ (q.1 = none ∧ (q.2.2 != 0) = true) := by
  unfold qi
  refine Tot.bind (abd s) fun q hq => Tot.ite (fun h => Tot.some (.inr ⟨rfl, h⟩)) fun _ => Tot.some (.inl ⟨_, rfl, ?_⟩)
  exact ⟨Int.le_refl 0, by show (0 : Int) ≤ (q.1.length : Int); omega, hq.2.1, hq.1⟩
theorem a1q {r : pensionref5_reader} (h : RI r) : Tot (j6 r) fun _ => True := by
  unfold j6
  refine Tot.ite (fun hc => ?_) fun _ => Tot.some trivial
  simp at hc
  exact Tot.bind (dh h.1 hc) fun _ _ => Tot.some trivial
theorem a0t (s : ByteArray) : Tot (qk s) fun _ => True := by
  unfold qk
  refine Tot.bind (a0i s) fun q hq => ?_
  rcases hq with ⟨r, hr, hI⟩ | ⟨hn, hc⟩
  case inr =>
    rw [hn]
    show Tot (if (q.2.2 != 0) = true then _ else _) _
    rw [if_pos hc]
    exact Tot.some trivial
  rw [hr]
  show Tot (if (q.2.2 != 0) = true then _ else _) _
  refine Tot.ite (fun _ => Tot.some trivial) fun _ => ?_
  refine Tot.bind (gj hI _) fun q1 g1 => ?_
  have r1 := g1.1.ri hI
  refine Tot.bind (N7 r1) fun q2 g2 => ?_
  have r2 := g2.1.ri r1
  refine Tot.bind (gj r2 _) fun q3 g3 => ?_
  have r3 := g3.1.ri r2
  refine Tot.bind (Be r3 _ _) fun q4 g4 => ?_
  have r4 := g4.1.ri r3
  refine Tot.bind (gj r4 _) fun q5 g5 => ?_
  have r5 := g5.1.ri r4
  refine Tot.loop (σ := (List Version) × Statute × pensionref5_reader × (List Version) × Statute × Bool) (I := fun v => RS q5 v.2.2.1 ∧ ((v.2.2.2.1.length : Int) ≤ v.2.2.1.at_ ∨ (v.2.2.1.bad = true ∧ (v.2.2.2.1.length : Int) ≤ v.2.2.1.at_ + 1)) ∧ (∀ x ∈ v.2.2.2.1, VG x) ∧ v.2.2.2.2.1.Name.size ≤ 8000) (μ := fun v => 2 * left v.2.2.1 + (if v.2.2.1.bad = true then 0 else 1))
    (s := ([], (⟨ng, 0, []⟩ : Statute), q5, [], (⟨q2.1, q4.1, []⟩ : Statute), true)) ⟨RS.refl r5, .inl r5.1, (fun x hx => by cases hx), g2.2.1⟩ (by
      show 2 * left q5 + (if q5.bad = true then 0 else 1) < _
      have h8 := r5.2.2.1
      have h10 : left q5 ≤ 8000 := by unfold left; have := r5.1; omega
      split <;> omega) ?_
  intro rc v hv ih
  obtain ⟨i1, i2, i3, i4⟩ := hv
  have rv := i1.ri r5
  have h8 := Qj r5 i1
  have fin : ∀ (p : pensionref5_reader), RI p → Tot (mh (v.1, (⟨v.2.1.Name, v.2.1.Currency, []⟩ : Statute), p, v.2.2.2.1, (⟨v.2.2.2.2.1.Name, v.2.2.2.2.1.Currency, []⟩ : Statute))) fun _ => True := by
    intro p hp
    unfold mh
    rw [dl, Option.bind_some]
    refine Tot.ite (fun _ => Tot.bind (a1q hp) fun _ _ => Tot.some trivial) fun _ => ?_
    exact Tot.bind (Xy i4 (by show v.2.2.2.1.length ≤ 8001; omega) i3) fun _ _ => Tot.ite (fun _ => Tot.some trivial) fun _ => Tot.some trivial
  have nxt : ∀ (p : pensionref5_reader), p = v.2.2.1 → v.2.2.1.bad = false → Tot (n5 rc (v.1, (⟨v.2.1.Name, v.2.1.Currency, []⟩ : Statute), p, v.2.2.2.1, (⟨v.2.2.2.2.1.Name, v.2.2.2.2.1.Currency, []⟩ : Statute))) fun _ => True := by
    intro p hp hb
    subst hp
    unfold n5
    have hlen : (v.2.2.2.1.length : Int) ≤ v.2.2.1.at_ := by
      rcases i2 with h | h
      · exact h
      · rw [hb] at h; cases h.1
    refine Tot.bind (Ux rv) fun x gx => Tot.bind (mj (by simp; omega)) fun l hl => ?_
    subst hl
    have gx : (RS v.2.2.1 x.2 ∧ (v.2.2.1.at_ < x.2.at_ ∨ x.2.bad = true) ∧ VG x.1) := gx
    have ha := gx.1.2.1
    refine ih _ ⟨i1.trans gx.1, ?_, fun y hy => (H8 hy).elim (i3 y) fun e => by subst e; exact gx.2.2, i4⟩ ?_
    · show ((v.2.2.2.1 ++ [x.1]).length : Int) ≤ x.2.at_ ∨ (x.2.bad = true ∧ ((v.2.2.2.1 ++ [x.1]).length : Int) ≤ x.2.at_ + 1)
      rw [List.length_append]
      simp only [List.length_cons, List.length_nil]
      rcases gx.2.1 with h | h
      · left; omega
      · right; exact ⟨h, by omega⟩
    · show 2 * left x.2 + (if x.2.bad = true then 0 else 1) < 2 * left v.2.2.1 + (if v.2.2.1.bad = true then 0 else 1)
      rw [hb]
      rcases gx.2.1 with h | h
      · have := Bt rv gx.1 h
        split <;> simp <;> omega
      · have := vg gx.1
        rw [h]
        simp
        omega
  unfold xo
  refine Tot.ite (fun hb => ?_) fun _ => Tot.join (fin _ rv)
  have hb : v.2.2.1.bad = false := by simpa using hb
  refine Tot.ite (fun _ => Tot.join (nxt _ rfl hb)) fun _ => ?_
  refine Tot.bind (pj rv _) fun t ht => Tot.ite (fun hp => Tot.join (nxt _ (ht.2.2.2 (by simpa using hp)) hb)) fun _ => Tot.join (fin _ (ht.1.ri rv))
end Go.PL
namespace Go.PL
open Go Go.SX
theorem ra (l : List Int) (k : Int) (s : ByteArray) (hl : l.length ≤ 9223372036854775807) (hs : s.size ≤ 2400) : Tot (kr (l, k, s)) fun r => r.size ≤ 2500 := by
  unfold kr
  try dsimp only
  have hstr__7d_ : Nf.size = 2 := by decide
  have hstrh_a41f67 : J7.size = 51 := by decide
  refine Tot.bind (eh _ _ hl) fun v105 hv105 => ?_
  refine Tot.bind (eg (by omega) (by omega)) fun v106 hv106 => ?_
  refine Tot.ite (fun hc => ?_) fun hc => ?_
  · skip
    refine Tot.bind (ao (by omega)) fun v107 hv107 => ?_
    refine Tot.bind (ao (by omega)) fun v108 hv108 => ?_
    exact Tot.some (by first | exact trivial | omega)
  · skip
    refine Tot.bind (ao (by omega)) fun v109 hv109 => ?_
    exact Tot.some (by first | exact trivial | omega)
theorem qx (l : List Int) (k : Int) (s : ByteArray) (hl : l.length ≤ 9223372036854775807) (hs : s.size ≤ 1900) : Tot (kz (l, k, s)) fun r => r.size ≤ 2500 := by
  unfold kz
  try dsimp only
  have hstr__3b_ : zd.size = 2 := by decide
  have hstr_d_pay_ : Mm.size = 6 := by decide
  have hstr_reduce_old_by_ : zf.size = 14 := by decide
  have hstrh_635cfa : Ju.size = 14 := by decide
  have hstrh_a54acb : Jt.size = 27 := by decide
  have hstrh_af57c7 : Kr.size = 27 := by decide
  have hstrh_bfa283 : Hz.size = 29 := by decide
  refine Tot.bind (eh _ _ hl) fun v79 hv79 => ?_
  refine Tot.bind (eg (by omega) (by omega)) fun v80 hv80 => ?_
  refine Tot.bind (qs (by omega) (by omega)) fun v81 hv81 => ?_
  refine Tot.bind (ao (by omega)) fun v82 hv82 => ?_
  refine Tot.bind (ao (by omega)) fun v83 hv83 => ?_
  refine Tot.bind (eh _ _ hl) fun v84 hv84 => ?_
  refine Tot.bind (eg (by omega) (by omega)) fun v85 hv85 => ?_
  refine Tot.bind (Cb (by omega) (by omega)) fun v86 hv86 => ?_
  refine Tot.bind (ao (by omega)) fun v87 hv87 => ?_
  refine Tot.bind (ao (by omega)) fun v88 hv88 => ?_
  refine Tot.bind (ao (by omega)) fun v89 hv89 => ?_
  refine Tot.bind (eh _ _ hl) fun v90 hv90 => ?_
  refine Tot.bind (eg (by omega) (by omega)) fun v91 hv91 => ?_
  refine Tot.bind (qs (by omega) (by omega)) fun v92 hv92 => ?_
  refine Tot.bind (ao (by omega)) fun v93 hv93 => ?_
  refine Tot.bind (ao (by omega)) fun v94 hv94 => ?_
  refine Tot.bind (ao (by omega)) fun v95 hv95 => ?_
  refine Tot.bind (eh _ _ hl) fun v96 hv96 => ?_
  refine Tot.bind (eg (by omega) (by omega)) fun v97 hv97 => ?_
  refine Tot.ite (fun hc => ?_) fun hc => ?_
  · skip
    refine Tot.bind (eh _ _ hl) fun v98 hv98 => ?_
    refine Tot.bind (eg (by omega) (by omega)) fun v99 hv99 => ?_
    refine Tot.bind (Bi (by omega) (by omega)) fun v100 hv100 => ?_
    refine Tot.bind (ao (by omega)) fun v101 hv101 => ?_
    refine Tot.bind (ao (by omega)) fun v102 hv102 => ?_
    refine Tot.bind (ao (by omega)) fun v103 hv103 => ?_
    exact Tot.join (ra _ _ _ hl (by omega))
  · skip
    exact Tot.join (ra _ _ _ hl (by omega))
theorem qz (l : List Int) (k : Int) (t s : ByteArray) (hl : l.length ≤ 9223372036854775807) (ht : t.size ≤ 8) (hs : s.size ≤ 900) : Tot (kv (l, k, t, s)) fun r => r.size ≤ 2500 := by
  unfold kv
  try dsimp only
  have hstr__3b_ : zd.size = 2 := by decide
  have hstr_m_29_3b_ : Gp.size = 4 := by decide
  have hstrh_196854 : Kp.size = 22 := by decide
  have hstrh_34ba8d : L3.size = 9 := by decide
  have hstrh_4d1f9b : Ko.size = 13 := by decide
  have hstrh_58c487 : Jh.size = 16 := by decide
  have hstrh_7bee7c : Kd.size = 31 := by decide
  have hstrh_7ff122 : Hm.size = 25 := by decide
  have hstrh_85bf07 : Kx.size = 13 := by decide
  have hstrh_98dd23 : Kc.size = 20 := by decide
  have hstrh_b388fe : L2.size = 66 := by decide
  have hstrh_d82640 : Jz.size = 23 := by decide
  have hstrh_da8d59 : Hx.size = 26 := by decide
  refine Tot.bind (eh _ _ hl) fun v29 hv29 => ?_
  refine Tot.bind (eg (by omega) (by omega)) fun v30 hv30 => ?_
  refine Tot.bind (Bi (by omega) (by omega)) fun v31 hv31 => ?_
  refine Tot.bind (ao (by omega)) fun v32 hv32 => ?_
  refine Tot.bind (ao (by omega)) fun v33 hv33 => ?_
  refine Tot.bind (eh _ _ hl) fun v34 hv34 => ?_
  refine Tot.bind (eg (by omega) (by omega)) fun v35 hv35 => ?_
  refine Tot.bind (Bi (by omega) (by omega)) fun v36 hv36 => ?_
  refine Tot.bind (ao (by omega)) fun v37 hv37 => ?_
  refine Tot.bind (ao (by omega)) fun v38 hv38 => ?_
  refine Tot.bind (ao (by omega)) fun v39 hv39 => ?_
  refine Tot.bind (ao (by omega)) fun v40 hv40 => ?_
  refine Tot.bind (ao (by omega)) fun v41 hv41 => ?_
  refine Tot.bind (eh _ _ hl) fun v42 hv42 => ?_
  refine Tot.bind (eg (by omega) (by omega)) fun v43 hv43 => ?_
  refine Tot.bind (Bi (by omega) (by omega)) fun v44 hv44 => ?_
  refine Tot.bind (ao (by omega)) fun v45 hv45 => ?_
  refine Tot.bind (ao (by omega)) fun v46 hv46 => ?_
  refine Tot.bind (ao (by omega)) fun v47 hv47 => ?_
  refine Tot.bind (eh _ _ hl) fun v48 hv48 => ?_
  refine Tot.bind (eg (by omega) (by omega)) fun v49 hv49 => ?_
  refine Tot.bind (Cb (by omega) (by omega)) fun v50 hv50 => ?_
  refine Tot.bind (ao (by omega)) fun v51 hv51 => ?_
  refine Tot.bind (ao (by omega)) fun v52 hv52 => ?_
  refine Tot.bind (eh _ _ hl) fun v53 hv53 => ?_
  refine Tot.bind (eg (by omega) (by omega)) fun v54 hv54 => ?_
  refine Tot.bind (qs (by omega) (by omega)) fun v55 hv55 => ?_
  refine Tot.bind (ao (by omega)) fun v56 hv56 => ?_
  refine Tot.bind (ao (by omega)) fun v57 hv57 => ?_
  refine Tot.bind (eh _ _ hl) fun v58 hv58 => ?_
  refine Tot.bind (eg (by omega) (by omega)) fun v59 hv59 => ?_
  refine Tot.bind (qs (by omega) (by omega)) fun v60 hv60 => ?_
  refine Tot.bind (ao (by omega)) fun v61 hv61 => ?_
  refine Tot.bind (ao (by omega)) fun v62 hv62 => ?_
  refine Tot.bind (ao (by omega)) fun v63 hv63 => ?_
  refine Tot.bind (eh _ _ hl) fun v64 hv64 => ?_
  refine Tot.bind (eg (by omega) (by omega)) fun v65 hv65 => ?_
  refine Tot.bind (qs (by omega) (by omega)) fun v66 hv66 => ?_
  refine Tot.bind (ao (by omega)) fun v67 hv67 => ?_
  refine Tot.bind (ao (by omega)) fun v68 hv68 => ?_
  refine Tot.bind (eh _ _ hl) fun v69 hv69 => ?_
  refine Tot.bind (eg (by omega) (by omega)) fun v70 hv70 => ?_
  refine Tot.bind (Bi (by omega) (by omega)) fun v71 hv71 => ?_
  refine Tot.bind (ao (by omega)) fun v72 hv72 => ?_
  refine Tot.bind (ao (by omega)) fun v73 hv73 => ?_
  refine Tot.bind (ao (by omega)) fun v74 hv74 => ?_
  refine Tot.bind (eh _ _ hl) fun v75 hv75 => ?_
  refine Tot.bind (eg (by omega) (by omega)) fun v76 hv76 => ?_
  refine Tot.ite (fun hc => ?_) fun hc => ?_
  · skip
    refine Tot.bind (ao (by omega)) fun v77 hv77 => ?_
    exact Tot.join (qx _ _ _ hl (by omega))
  · skip
    exact Tot.join (qx _ _ _ hl (by omega))
theorem qy (l : List Int) (k : Int) (t s : ByteArray) (hl : l.length ≤ 9223372036854775807) (ht : t.size ≤ 8) (hs : s.size ≤ 800) : Tot (kw (l, k, t, s)) fun r => r.size ≤ 2500 := by
  unfold kw
  try dsimp only
  have hstrh_2afe9d : Jy.size = 18 := by decide
  refine Tot.bind (eh _ _ hl) fun v25 hv25 => ?_
  refine Tot.bind (eg (by omega) (by omega)) fun v26 hv26 => ?_
  refine Tot.ite (fun hc => ?_) fun hc => ?_
  · skip
    refine Tot.bind (ao (by omega)) fun v27 hv27 => ?_
    exact Tot.join (qz _ _ _ _ hl ht (by omega))
  · skip
    exact Tot.join (qz _ _ _ _ hl ht (by omega))
theorem gk (l : List Int) (k : Int) (t s : ByteArray) (hl : l.length ≤ 9223372036854775807) (ht : t.size ≤ 8) (hs : s.size ≤ 400) : Tot (eo (l, k, t, s)) fun r => r.size ≤ 2500 := by
  unfold eo
  try dsimp only
  have hstr__3b_ : zd.size = 2 := by decide
  have hstrh_405077 : Ho.size = 19 := by decide
  have hstrh_f7dc2d : Kw.size = 42 := by decide
  refine Tot.bind (eh _ _ hl) fun v10 hv10 => ?_
  refine Tot.bind (eg (by omega) (by omega)) fun v11 hv11 => ?_
  refine Tot.bind (Cb (by omega) (by omega)) fun v12 hv12 => ?_
  refine Tot.bind (ao (by omega)) fun v13 hv13 => ?_
  refine Tot.bind (ao (by omega)) fun v14 hv14 => ?_
  refine Tot.bind (ao (by omega)) fun v15 hv15 => ?_
  refine Tot.bind (eh _ _ hl) fun v16 hv16 => ?_
  refine Tot.bind (eg (by omega) (by omega)) fun v17 hv17 => ?_
  refine Tot.ite (fun hc => ?_) fun hc => ?_
  · skip
    refine Tot.bind (eh _ _ hl) fun v18 hv18 => ?_
    refine Tot.bind (eg (by omega) (by omega)) fun v19 hv19 => ?_
    refine Tot.bind (Cb (by omega) (by omega)) fun v20 hv20 => ?_
    refine Tot.bind (ao (by omega)) fun v21 hv21 => ?_
    refine Tot.bind (ao (by omega)) fun v22 hv22 => ?_
    refine Tot.bind (ao (by omega)) fun v23 hv23 => ?_
    exact Tot.join (qy _ _ _ _ hl ht (by omega))
  · skip
    exact Tot.join (qy _ _ _ _ hl ht (by omega))
theorem o3 (a : ByteArray) (l : List Int) (k : Int) (hl : l.length ≤ 9223372036854775807) (ha : a.size ≤ 20) : Tot (ib a l k) fun r => r.size ≤ 2500 := by
  unfold ib
  try dsimp only
  have hstr___7b_round_ : Bk.size = 9 := by decide
  have hstr_down_1_3b_ : Ci.size = 8 := by decide
  have hstr_even_10_3b_ : Bf.size = 9 := by decide
  have hstr_from__40 : G7.size = 6 := by decide
  have hstr_half_5_3b_ : Ct.size = 8 := by decide
  have hstr_up_1_3b_ : G5.size = 6 := by decide
  refine Tot.bind (eh _ _ hl) fun v1 hv1 => ?_
  refine Tot.bind (eg (by omega) (by omega)) fun v2 hv2 => ?_
  refine Tot.bind (Cb (by omega) (by omega)) fun v3 hv3 => ?_
  refine Tot.bind (ao (by omega)) fun v4 hv4 => ?_
  refine Tot.bind (ao (by omega)) fun v5 hv5 => ?_
  refine Tot.bind (eh _ _ hl) fun v6 hv6 => ?_
  refine Tot.bind (eg (by omega) (by omega)) fun v7 hv7 => ?_
  refine Tot.ite (fun hc => ?_) fun hc => ?_
  · skip
    refine Tot.bind (ao (by omega)) fun v8 hv8 => ?_
    exact Tot.join (gk _ _ _ _ hl (by omega) (by omega))
  · skip
    refine Tot.ite (fun hc => ?_) fun hc => ?_
    · skip
      refine Tot.bind (ao (by omega)) fun v110 hv110 => ?_
      exact Tot.join (gk _ _ _ _ hl (by omega) (by omega))
    · skip
      refine Tot.ite (fun hc => ?_) fun hc => ?_
      · skip
        refine Tot.bind (ao (by omega)) fun v111 hv111 => ?_
        exact Tot.join (gk _ _ _ _ hl (by omega) (by omega))
      · skip
        refine Tot.bind (ao (by omega)) fun v112 hv112 => ?_
        exact Tot.join (gk _ _ _ _ hl (by omega) (by omega))
theorem tc (k : Int) (l : List Int) (s : ByteArray) (hl : l.length ≤ 9223372036854775807) (hs : s.size ≤ 6000) : Tot (o5 (k, l, s)) fun r => True := by
  unfold o5
  try dsimp only
  have hstr_2001_2d01_2d01 : zb.size = 10 := by decide
  have hstr__7d : J0.size = 1 := by decide
  refine Tot.bind (eh _ _ hl) fun v15 hv15 => ?_
  refine Tot.bind (eg (by omega) (by omega)) fun v16 hv16 => ?_
  refine Tot.ite (fun hc => ?_) fun hc => ?_
  · skip
    refine Tot.bind (o3 _ _ _ hl (by decide)) fun v17 hv17 => ?_
    refine Tot.bind (ao (by omega)) fun v18 hv18 => ?_
    refine Tot.bind (ao (by omega)) fun v19 hv19 => ?_
    exact Tot.some (by first | exact trivial | omega)
  · skip
    refine Tot.bind (ao (by omega)) fun v20 hv20 => ?_
    exact Tot.some (by first | exact trivial | omega)
theorem Cg {k : Int} (l : List Int) (hl : l.length ≤ 9223372036854775807) (h0 : 0 ≤ k) (h3 : k < 3) : Tot (rx k l) fun r => True := by
  unfold rx
  try dsimp only
  have hstr_1900_2d01_2d01 : zh.size = 10 := by decide
  have hstr_1996_2d07_2d01 : zg.size = 10 := by decide
  have hstr___7b_ : Ri.size = 3 := by decide
  have hstr__currency_ : Cj.size = 10 := by decide
  have hstr_alba : C6.size = 4 := by decide
  have hstr_bora : C2.size = 4 := by decide
  have hstr_cedar : A5.size = 5 := by decide
  have hstr_statute_ : Gn.size = 8 := by decide
  have hn : ∀ x ∈ [C6, C2, A5], x.size ≤ 10 := by decide
  refine Tot.bind (dh (l := [C6, C2, A5]) h0 h3) fun v1 hv1 => ?_
  refine Tot.bind (dh (l := [C6, C2, A5]) h0 h3) fun v2 hv2 => ?_
  have hv2 := hn v2 hv2
  refine Tot.bind (ao (by omega)) fun v3 hv3 => ?_
  refine Tot.bind (ao (by omega)) fun v4 hv4 => ?_
  refine Tot.bind (Cb (by omega) (by omega)) fun v5 hv5 => ?_
  refine Tot.bind (ao (by omega)) fun v6 hv6 => ?_
  refine Tot.bind (ao (by omega)) fun v7 hv7 => ?_
  refine Tot.bind (o3 _ _ _ hl (by decide)) fun v8 hv8 => ?_
  refine Tot.bind (ao (by omega)) fun v9 hv9 => ?_
  refine Tot.bind (eh _ _ hl) fun v10 hv10 => ?_
  refine Tot.bind (eg (by omega) (by omega)) fun v11 hv11 => ?_
  refine Tot.ite (fun hc => ?_) fun hc => ?_
  · skip
    refine Tot.bind (o3 _ _ _ hl (by decide)) fun v12 hv12 => ?_
    refine Tot.bind (ao (by omega)) fun v13 hv13 => ?_
    exact Tot.join (tc _ _ _ hl (by omega))
  · skip
    exact Tot.join (tc _ _ _ hl (by omega))
end Go.PL
namespace Go.PL
open Go Go.SX
theorem a5v {l : List Int} (hl : l.length ≤ 9223372036854775807) : Tot (rt l) fun _ => True := by
  unfold rt
  refine Tot.loop (σ := (List State) × (List Rules) × (List Rate) × Laws × (List State) × (List Rules) × Laws × Int) (I := fun v => 0 ≤ v.2.2.2.2.2.2.2 ∧ v.2.2.2.2.2.2.2 ≤ 3 ∧ (v.2.2.2.2.1.length : Int) ≤ v.2.2.2.2.2.2.2) (μ := fun v => (3 - v.2.2.2.2.2.2.2).toNat) ⟨Int.le_refl _, by show (0 : Int) ≤ 3; omega, Int.le_refl _⟩ (by show (3 - 0 : Int).toNat < _; omega) ?_
  intro r v hI ih
  obtain ⟨g1, g2, g3⟩ := hI
  unfold y8
  refine Tot.ite (fun hc => ?_) fun _ => ?_
  · simp at hc
    refine Tot.bind (Cg l hl g1 hc) fun t _ => Tot.bind (a0t t) fun q _ => ?_
    rw [ss g1 (by omega)]
    refine Tot.ite (fun _ => ?_) fun _ => ?_
    · refine Tot.bind (mj (by simp; omega)) fun a ha => ?_
      subst ha
      exact ih _ ⟨by show 0 ≤ v.2.2.2.2.2.2.2 + 1; omega, by show v.2.2.2.2.2.2.2 + 1 ≤ 3; omega, by simp; omega⟩ (by show (3 - (v.2.2.2.2.2.2.2 + 1)).toNat < (3 - v.2.2.2.2.2.2.2).toNat; omega)
    · exact ih _ ⟨by show 0 ≤ v.2.2.2.2.2.2.2 + 1; omega, by show v.2.2.2.2.2.2.2 + 1 ≤ 3; omega, by show (v.2.2.2.2.1.length : Int) ≤ v.2.2.2.2.2.2.2 + 1; omega⟩ (by show (3 - (v.2.2.2.2.2.2.2 + 1)).toNat < (3 - v.2.2.2.2.2.2.2).toNat; omega)
  · refine Tot.bind (eh _ _ hl) fun a _ => Tot.bind (eg (by omega) (by omega)) fun b _ => Tot.bind (eh _ _ hl) fun c _ => Tot.bind (eg (by omega) (by omega)) fun d _ => ?_
    have e0 : ∀ x : Rules, av [x] 0 = some x := fun x => rfl
    simp only [e0, Option.bind_some]
    refine Tot.ite (fun _ => Tot.some trivial) fun _ => Tot.ite (fun _ => ?_) fun _ => ?_
    · exact Tot.bind (mj (by simp)) fun _ _ => Tot.some trivial
    · exact Tot.bind (mj (by simp [Cz])) fun _ _ => Tot.some trivial
theorem a0g {l : List Int} (hl : l.length ≤ 9223372036854775807) : Tot (qg l) fun r => r.length = 15 := by
  unfold qg
  refine Tot.loop (I := fun v : List api_Fact × Int => 1 ≤ v.2 ∧ v.2 ≤ 3 ∧ (v.1.length : Int) = 6 * (v.2 - 1)) (μ := fun v => (3 - v.2).toNat) ⟨Int.le_refl _, by show (1 : Int) ≤ 3; omega, rfl⟩ (by show (3 - 1 : Int).toNat < _; omega) ?_
  intro r v hI ih
  obtain ⟨g1, g2, g3⟩ := hI
  unfold xg
  refine Tot.ite (fun hc => ?_) fun hc => ?_
  · simp at hc
    rw [ss (by omega) (by omega)]
    repeat' first
      | (refine Tot.bind (eh _ _ hl) fun _ _ => ?_)
      | (refine Tot.bind (eg (by omega) (by omega)) fun _ _ => ?_)
      | (refine Tot.bind (mj (by simp; omega)) fun _ h => ?_; subst h)
    exact ih _ ⟨by show 1 ≤ v.2 + 1; omega, by show v.2 + 1 ≤ 3; omega, by simp; omega⟩ (by show (3 - (v.2 + 1)).toNat < (3 - v.2).toNat; omega)
  · simp at hc
    repeat' first
      | (refine Tot.bind (eh _ _ hl) fun _ _ => ?_)
      | (refine Tot.bind (eg (by omega) (by omega)) fun _ _ => ?_)
      | (refine Tot.bind (mj (by simp; omega)) fun _ h => ?_; subst h)
    exact Tot.some (by simp; omega)
theorem Ub (a : Int) : Tot (pi a) fun _ => True := by
  unfold pi
  have h : ∀ k : Int, 0 < k → k ≤ 9000 → Tot (Option.bind (Gy a 4) fun v => Option.bind (aa v k) fun w => some (i64 (1 + w))) fun _ => True := fun k h0 h1 => Tot.bind (a7x (by decide)) fun _ _ => Tot.bind (eg h0 (by omega)) fun _ _ => Tot.some trivial
  refine Tot.bind (eg (by omega) (by omega)) fun m _ => Tot.ite (fun _ => h _ (by omega) (by omega)) fun _ => Tot.ite (fun _ => h _ (by omega) (by omega)) fun _ => Tot.ite (fun _ => h _ (by omega) (by omega)) fun _ => h _ (by omega) (by omega)
theorem Ze (k : Int) : Tot (cw k) fun s => s.size ≤ 10 := by
  unfold cw
  rw [dl, Option.bind_some]
  refine Tot.ite (fun _ => Tot.some (by decide)) fun h => ?_
  simp at h
  have hs : ∀ x ∈ [ng, sr, nc, nc, Bp, q8, yy, q8, q8, q8, Bg, Bb, Bb, Bb, Fs], x.size ≤ 10 := by decide
  exact Tot.bind (dh (by omega) (by simp; omega)) fun _ _ => Tot.bind (dh (by omega) (by simp; omega)) fun x hx => Tot.some (hs x hx)
theorem a84 (a : pensionhand_Fact) : Tot (s3 a) fun _ => True := by
  have j : ∀ q, Tot (ig q) fun _ => True := by
    intro q
    unfold ig
    refine Tot.bind (Ze _) fun s hs => ?_
    refine Tot.loop (σ := pensionhand_Fact × api_Fact × api_Fact × Int) (I := fun v => 0 ≤ v.2.2.2) (μ := fun v => ((s.size : Int) - v.2.2.2).toNat) (Int.le_refl _) (by show ((s.size : Int) - 0).toNat < _; omega) ?_
    intro r v g1 ih
    unfold yj
    refine Tot.ite (fun hc => ?_) fun _ => Tot.some trivial
    simp at hc
    have nx : ∀ (x : pensionhand_Fact) (y z : api_Fact), Tot (r (x, y, z, i64 (v.2.2.2 + 1))) fun _ => True := fun x y z => by
      rw [ss g1 (by omega)]
      exact ih _ (by show 0 ≤ v.2.2.2 + 1; omega) (by show ((s.size : Int) - (v.2.2.2 + 1)).toNat < ((s.size : Int) - v.2.2.2).toNat; omega)
    refine Tot.bind (pf g1 hc) fun b _ => ?_
    simp only [bw, Option.bind_some]
    repeat' first
      | exact nx _ _ _
      | (refine Tot.ite (fun _ => ?_) fun _ => ?_)
      | (refine Tot.bind (eg (by omega) (by omega)) fun _ _ => ?_)
      | (refine Tot.bind (a6g (by decide)) fun _ _ => ?_)
  unfold s3
  repeat' first
    | exact Tot.join (j _)
    | (refine Tot.ite (fun _ => ?_) fun _ => ?_)
    | (refine Tot.bind (eg (by omega) (by omega)) fun _ _ => ?_)
    | (refine Tot.bind (Ub _) fun _ _ => ?_)
theorem a1o (l : List pensionhand_Fact) : Tot (qe l) fun r => r.length ≤ 12 := by
  unfold qe
  refine Tot.loop (I := fun v : List api_Fact × Int => 0 ≤ v.2 ∧ v.2 ≤ 12 ∧ (v.1.length : Int) = v.2) (μ := fun v => (12 - v.2).toNat) ⟨Int.le_refl _, by show (0 : Int) ≤ 12; omega, rfl⟩ (by show (12 - 0 : Int).toNat < _; omega) ?_
  intro r v hI ih
  obtain ⟨g1, g2, g3⟩ := hI
  unfold xl
  rw [bw, Option.bind_some]
  refine Tot.ite (fun hc => ?_) fun _ => Tot.some (by omega)
  simp at hc
  refine Tot.bind (dh g1 (by omega)) fun x _ => Tot.bind (a84 x) fun f _ => Tot.bind (mj (by simp; omega)) fun a ha => ?_
  subst ha
  rw [ss g1 (by omega)]
  exact ih _ ⟨by show 0 ≤ v.2 + 1; omega, by show v.2 + 1 ≤ 12; omega, by simp; omega⟩ (by show (12 - (v.2 + 1)).toNat < (12 - v.2).toNat; omega)
theorem T1 (n : Int) : Tot (nk n) fun r => 1 ≤ r ∧ r ≤ 4 := by
  unfold nk
  refine Tot.bind (eg (by omega) (by omega)) fun m hm => Tot.some ?_
  rw [au (by omega) (by omega)]; omega
theorem Ul (n : Int) : Tot (pd n) fun r => 1155 ≤ r ∧ r ≤ 1194 := by
  unfold pd
  refine Tot.bind (eg (by omega) (by omega)) fun m hm => Tot.some ?_
  rw [au (by omega) (by omega)]; omega
end Go.PL
namespace Go.PL
open Go Go.SX
def Cu (k : Int) : Prop := ∃ (s : ByteArray) (bS bT bH bC bA bR : Bool), rq k = some s ∧ cw k = some s ∧ (s.toList == ng.toList) = false ∧
  (cm abp s = some bS ∧ c7 k 83 = some bS) ∧ (cm acs s = some bT ∧ c7 k 84 = some bT) ∧ (cm abl s = some bH ∧ c7 k 72 = some bH) ∧
  (cm acg s = some bC ∧ c7 k 67 = some bC) ∧ (cm abu s = some bA ∧ c7 k 65 = some bA) ∧ (cm aar s = some bR ∧ c7 k 82 = some bR)
theorem Fy {k : Int} (s : ByteArray) (bS bT bH bC bA bR : Bool) (h1 : rq k = some s) (h2 : cw k = some s) (h3 : (s.toList == ng.toList) = false)
  (a1 : cm abp s = some bS) (b1 : c7 k 83 = some bS) (a2 : cm acs s = some bT) (b2 : c7 k 84 = some bT) (a3 : cm abl s = some bH) (b3 : c7 k 72 = some bH)
  (a4 : cm acg s = some bC) (b4 : c7 k 67 = some bC) (a5 : cm abu s = some bA) (b5 : c7 k 65 = some bA) (a6 : cm aar s = some bR) (b6 : c7 k 82 = some bR) : Cu k :=
  ⟨s, bS, bT, bH, bC, bA, bR, h1, h2, h3, ⟨a1, b1⟩, ⟨a2, b2⟩, ⟨a3, b3⟩, ⟨a4, b4⟩, ⟨a5, b5⟩, a6, b6⟩
theorem af1 : Cu 1 := Fy sr true true true true true false (by kernel_rfl) (by kernel_rfl) (by kernel_rfl) (by kernel_rfl) (by kernel_rfl) (by kernel_rfl) (by kernel_rfl) (by kernel_rfl) (by kernel_rfl) (by kernel_rfl) (by kernel_rfl) (by kernel_rfl) (by kernel_rfl) (by kernel_rfl) (by kernel_rfl)
theorem ae9 : Cu 2 := Fy nc true false true true true false (by kernel_rfl) (by kernel_rfl) (by kernel_rfl) (by kernel_rfl) (by kernel_rfl) (by kernel_rfl) (by kernel_rfl) (by kernel_rfl) (by kernel_rfl) (by kernel_rfl) (by kernel_rfl) (by kernel_rfl) (by kernel_rfl) (by kernel_rfl) (by kernel_rfl)
theorem ae8 : Cu 4 := Fy Bp true true false false false false (by kernel_rfl) (by kernel_rfl) (by kernel_rfl) (by kernel_rfl) (by kernel_rfl) (by kernel_rfl) (by kernel_rfl) (by kernel_rfl) (by kernel_rfl) (by kernel_rfl) (by kernel_rfl) (by kernel_rfl) (by kernel_rfl) (by kernel_rfl) (by kernel_rfl)
theorem afc : Cu 5 := Fy q8 true false false false false false (by kernel_rfl) (by kernel_rfl) (by kernel_rfl) (by kernel_rfl) (by kernel_rfl) (by kernel_rfl) (by kernel_rfl) (by kernel_rfl) (by kernel_rfl) (by kernel_rfl) (by kernel_rfl) (by kernel_rfl) (by kernel_rfl) (by kernel_rfl) (by kernel_rfl)
theorem aec : Cu 6 := Fy yy true false false true true false (by kernel_rfl) (by kernel_rfl) (by kernel_rfl) (by kernel_rfl) (by kernel_rfl) (by kernel_rfl) (by kernel_rfl) (by kernel_rfl) (by kernel_rfl) (by kernel_rfl) (by kernel_rfl) (by kernel_rfl) (by kernel_rfl) (by kernel_rfl) (by kernel_rfl)
theorem aaq : Cu 10 := Fy Bg true false false false false true (by kernel_rfl) (by kernel_rfl) (by kernel_rfl) (by kernel_rfl) (by kernel_rfl) (by kernel_rfl) (by kernel_rfl) (by kernel_rfl) (by kernel_rfl) (by kernel_rfl) (by kernel_rfl) (by kernel_rfl) (by kernel_rfl) (by kernel_rfl) (by kernel_rfl)
theorem acq : Cu 11 := Fy Bb false false false false false false (by kernel_rfl) (by kernel_rfl) (by kernel_rfl) (by kernel_rfl) (by kernel_rfl) (by kernel_rfl) (by kernel_rfl) (by kernel_rfl) (by kernel_rfl) (by kernel_rfl) (by kernel_rfl) (by kernel_rfl) (by kernel_rfl) (by kernel_rfl) (by kernel_rfl)
theorem aay : Cu 14 := Fy Fs false false false false false true (by kernel_rfl) (by kernel_rfl) (by kernel_rfl) (by kernel_rfl) (by kernel_rfl) (by kernel_rfl) (by kernel_rfl) (by kernel_rfl) (by kernel_rfl) (by kernel_rfl) (by kernel_rfl) (by kernel_rfl) (by kernel_rfl) (by kernel_rfl) (by kernel_rfl)
theorem acu {k : Int} (h0 : 1 ≤ k) (h1 : k ≤ 14) : Cu k := by
  have : k = 1 ∨ k = 2 ∨ k = 3 ∨ k = 4 ∨ k = 5 ∨ k = 6 ∨ k = 7 ∨ k = 8 ∨ k = 9 ∨ k = 10 ∨ k = 11 ∨ k = 12 ∨ k = 13 ∨ k = 14 := by omega
  rcases this with rfl | rfl | rfl | rfl | rfl | rfl | rfl | rfl | rfl | rfl | rfl | rfl | rfl | rfl
  all_goals first | exact af1 | exact ae9 | exact uses_3 | exact ae8 | exact afc | exact aec | exact uses_7 | exact uses_8 | exact uses_9 | exact aaq | exact acq | exact uses_12 | exact uses_13 | exact aay
theorem W3 {k : Int} (h : k < 1 ∨ 15 ≤ k) : rq k = some ng ∧ cw k = some ng := by
  have e : ∀ j : Int, 1 ≤ j → j ≤ 14 → (k == j) = false := by intro j _ _; simp; omega
  constructor
  · unfold rq Bn wc zi joinC
    simp [e 1, e 2, e 3, e 4, e 5, e 6, e 7, e 8, e 9, e 10, e 11, e 12, e 13, e 14]
  · unfold cw
    rw [dl, Option.bind_some, if_pos (by simp; omega)]
theorem uu {k : Int} {s c : ByteArray} {n x lo hi : Int} {b : Bool} (h : cm c s = some b ∧ c7 k n = some b) :
    (Option.bind (cm c s) fun z => qh z x lo hi) = some (if b = true then decide (lo ≤ x) && decide (x ≤ hi) else x == 0) ∧
    dq k n x lo hi = some (if b = true then decide (lo ≤ x) && decide (x ≤ hi) else x == 0) := by
  obtain ⟨h1, h2⟩ := h
  constructor
  · unfold qh pp
    rw [h1]
    simp only [bw, dl, Option.bind_some]
    cases b <;> simp
  · unfold dq
    rw [h2]
    simp only [bw, Option.bind_some]
    cases b <;> simp
theorem Us {α β γ : Type} (a : Option α) (f : α → Option β) (g : β → Option γ) : (Option.bind a fun x => Option.bind (f x) g) = Option.bind (Option.bind a f) g := by cases a <;> rfl
set_option maxHeartbeats 4000000 in
theorem Ke (d : api_Fact) : ∃ b, oo d = some b ∧ ce d = some b ∧ (b = true → 0 ≤ d.Span.From ∧ d.Span.From < d.Span.To ∧ d.Span.To ≤ 73049) := by
  by_cases hk : 1 ≤ d.Kind ∧ d.Kind ≤ 14
  · obtain ⟨s, bS, bT, bH, bC, bA, bR, h1, h2, h3, hS, hT, hH, hC, hA, hR⟩ := acu hk.1 hk.2
    obtain ⟨fS, rS⟩ := uu (x := d.State) (lo := 0) (hi := 5) hS
    obtain ⟨fT, rT⟩ := uu (x := d.Seat) (lo := 0) (hi := 5) hT
    obtain ⟨fH, rH⟩ := uu (x := d.Share) (lo := 1) (hi := 100) hH
    obtain ⟨fC, rC⟩ := uu (x := d.Currency) (lo := 1) (hi := 999) hC
    obtain ⟨fA, rA⟩ := uu (x := d.Amount) (lo := 0) (hi := 1000000000) hA
    obtain ⟨fR, rR⟩ := uu (x := d.Ref) (lo := 1) (hi := 99) hR
    generalize (if bS = true then decide (0 ≤ d.State) && decide (d.State ≤ 5) else d.State == 0) = vS at fS rS
    generalize (if bT = true then decide (0 ≤ d.Seat) && decide (d.Seat ≤ 5) else d.Seat == 0) = vT at fT rT
    generalize (if bH = true then decide (1 ≤ d.Share) && decide (d.Share ≤ 100) else d.Share == 0) = vH at fH rH
    generalize (if bC = true then decide (1 ≤ d.Currency) && decide (d.Currency ≤ 999) else d.Currency == 0) = vC at fC rC
    generalize (if bA = true then decide (0 ≤ d.Amount) && decide (d.Amount ≤ 1000000000) else d.Amount == 0) = vA at fA rA
    generalize (if bR = true then decide (1 ≤ d.Ref) && decide (d.Ref ≤ 99) else d.Ref == 0) = vR at fR rR
    unfold oo ce
    simp only [Us, fS, fT, fH, fC, fA, fR, rS, rT, rH, rC, rA, rR, h1, h2, Option.bind_some, h3, Bool.false_eq_true, if_false]
    unfold pp zu B2 Aq joinC
    simp only [Option.bind_some, dl, bw]
    by_cases hI : (((((((decide (d.Issuer < 0) || decide (6 ≤ d.Issuer)) || decide (d.Number < 1)) || decide (999 < d.Number)) || decide (d.Version < 1)) || decide (99 < d.Version)) || decide (d.Person < 1)) || decide (99 < d.Person)) = true
    · refine ⟨false, ?_, ?_, by simp⟩
      · rw [if_pos]
        simp at hI ⊢; omega
      · rw [if_pos]
        simp only [hI]; rfl
    · rw [Bool.not_eq_true] at hI
      simp only [hI, Bool.false_or, Bool.false_eq_true, if_false]
      rw [if_neg (by simp at hI ⊢; omega)]
      by_cases hP : 0 ≤ d.Span.From ∧ d.Span.From < d.Span.To ∧ d.Span.To ≤ 73049
      · have hp1 : ((decide (0 ≤ d.Span.From) && decide (d.Span.From < d.Span.To)) && decide (d.Span.To ≤ 73049)) = true := by simp; omega
        have hp2 : ((decide (d.Span.From < 0) || decide (d.Span.To ≤ d.Span.From)) || decide (73049 < d.Span.To)) = false := by simp; omega
        have e1 : i64 (d.Span.From + 1) = d.Span.From + 1 := au (by omega) (by omega)
        have e2 : i64 (d.Span.To - d.Span.From) = d.Span.To - d.Span.From := au (by omega) (by omega)
        have e3 : (d.Span.To == d.Span.From + 1) = !(d.Span.To - d.Span.From != 1) := by
          rw [Bool.eq_iff_iff]; simp; omega
        simp only [hp1, hp2, e1, e2, e3, Bool.not_true, Bool.or_false, Bool.false_eq_true, if_false]
        refine ⟨!(((((d.Kind == 11) || (d.Kind == 12)) && (d.Span.To - d.Span.From != 1)) || ((d.Kind == 4) && (d.Seat == d.State))) || (((d.Kind == 10) || (d.Kind == 14)) && (d.Ref == d.Person))) && (((((vS && vT) && vH) && vC) && vA) && vR), ?_, ?_, fun _ => hP⟩
        · have hkk : d.Kind = 4 ∨ d.Kind = 11 ∨ d.Kind = 12 ∨ d.Kind = 10 ∨ d.Kind = 14 ∨ ((d.Kind == 4) = false ∧ (d.Kind == 11) = false ∧ (d.Kind == 12) = false ∧ (d.Kind == 10) = false ∧ (d.Kind == 14) = false) := by simp; omega
          rcases hkk with h | h | h | h | h | ⟨g1, g2, g3, g4, g5⟩
          · simp only [h]; cases vS <;> cases vT <;> cases vH <;> cases vC <;> cases vA <;> cases vR <;> simp
            show (!(d.State == d.Seat)) = (!(d.Seat == d.State))
            rw [BEq.comm]
          · simp only [h]; cases vS <;> cases vT <;> cases vH <;> cases vC <;> cases vA <;> cases vR <;> simp
          · simp only [h]; cases vS <;> cases vT <;> cases vH <;> cases vC <;> cases vA <;> cases vR <;> simp
          · simp only [h]; cases vS <;> cases vT <;> cases vH <;> cases vC <;> cases vA <;> cases vR <;> simp
            rfl
          · simp only [h]; cases vS <;> cases vT <;> cases vH <;> cases vC <;> cases vA <;> cases vR <;> simp
            rfl
          · simp only [g1, g2, g3, g4, g5]; cases vS <;> cases vT <;> cases vH <;> cases vC <;> cases vA <;> cases vR <;> simp
        · generalize (((((d.Kind == 11) || (d.Kind == 12)) && (d.Span.To - d.Span.From != 1)) || ((d.Kind == 4) && (d.Seat == d.State))) || (((d.Kind == 10) || (d.Kind == 14)) && (d.Ref == d.Person))) = sp
          cases sp <;> cases vS <;> cases vT <;> cases vH <;> cases vC <;> cases vA <;> cases vR <;> simp
      · have hp1 : ((decide (0 ≤ d.Span.From) && decide (d.Span.From < d.Span.To)) && decide (d.Span.To ≤ 73049)) = false := by simp; omega
        have hp2 : ((decide (d.Span.From < 0) || decide (d.Span.To ≤ d.Span.From)) || decide (73049 < d.Span.To)) = true := by simp; omega
        refine ⟨false, ?_, ?_, by simp⟩
        · rw [if_pos]; simp only [hp1, Bool.not_false, Bool.or_true]
        · rw [if_pos hp2]; simp
  · obtain ⟨h1, h2⟩ := W3 (k := d.Kind) (by omega)
    refine ⟨false, ?_, ?_, by simp⟩
    · unfold oo
      simp [h1]
    · unfold ce
      simp only [dl, Option.bind_some]
      simp [h2]
end Go.PL
namespace Go.PL
open Go
theorem oy {α β : Type} (f : α → Option β) (a : α) : Go.SX.joinC f a = f a := rfl
theorem ox {i n : Nat} (h : i < n) : (decide ((i : Int) < (n : Int))) = true := by simp; omega
theorem jt (n : Nat) : ¬ (decide ((n : Int) < (n : Int))) = true := by simp
theorem Au {α : Type} {f : (List α × Int → Option (List α)) → List α × Int → Option (List α)} {k : Nat} (l : List α) (p : α → Bool) (hl : l.length ≤ 2 ^ 30) (hk : k ≤ 1000)
    (hstep : ∀ (rec : List α × Int → Option (List α)) (s : List α) (i : Nat) (y : α), l[i]? = some y → f rec (s, (i : Int)) = if p y = true then Option.bind (m8 k s [y]) (fun a => rec (a, i64 ((i : Int) + 1))) else rec (s, i64 ((i : Int) + 1)))
    (hfin : ∀ (rec : List α × Int → Option (List α)) (s : List α), f rec (s, (l.length : Int)) = some s) : am FU f ([], 0) = some (l.filter p) := by
  refine gr (f := f) l (fun s i => (s, i)) (fun s i => s = (l.take i).filter p) (fun o => o = some (l.filter p)) (by omega) ?_ ?_ [] (by simp)
  · rintro rec s i y hi hy rfl
    right
    have hlen : ((l.take i).filter p).length ≤ i := by
      have := List.length_filter_le p (l.take i); rw [List.length_take] at this; omega
    rw [hstep _ _ _ _ hy, gl (by omega), j3 hy, List.filter_append]
    by_cases hc : p y = true
    · rw [if_pos hc, de (by
        simp only [List.length_cons, List.length_nil]
        calc (((l.take i).filter p).length + 1) * k ≤ (2 ^ 30 + 1) * 1000 := Nat.mul_le_mul (by omega) hk
          _ ≤ _ := by omega), Option.bind_some]
      exact ⟨_, rfl, by simp [hc]⟩
    · rw [if_neg hc]
      rw [Bool.not_eq_true] at hc
      exact ⟨_, rfl, by simp [hc]⟩
  · rintro rec s rfl
    rw [hfin, List.take_length]
theorem uo {α : Type} {f : (Int → Option Int) → Int → Option Int} (l : List α) (p : α → Bool) (hl : l.length ≤ 2 ^ 30)
    (hstep : ∀ (rec : Int → Option Int) (i : Nat) (y : α), l[i]? = some y → f rec (i : Int) = if p y = true then some (i : Int) else rec (i64 ((i : Int) + 1)))
    (hfin : ∀ rec : Int → Option Int, f rec (l.length : Int) = some (-1)) : ∃ n, am FU f 0 = some n ∧ decide (n ≥ 0) = l.any p := by
  refine gr (f := f) l (fun (_ : Unit) i => i) (fun _ i => ∀ y ∈ l.take i, p y = false) (fun o => ∃ n, o = some n ∧ decide (n ≥ 0) = l.any p) (by omega) ?_ ?_ () (by simp)
  · rintro rec s i y hi hy h
    rw [hstep _ _ _ hy, gl (by omega)]
    by_cases hc : p y = true
    · left
      rw [if_pos hc]
      exact ⟨_, rfl, by rw [List.any_eq_true.2 ⟨y, List.mem_of_getElem? hy, hc⟩]; simp⟩
    · right
      rw [if_neg hc]
      refine ⟨(), rfl, fun z hz => ?_⟩
      rw [j3 hy] at hz
      rcases List.mem_append.1 hz with hz | hz
      · exact h z hz
      · rw [List.mem_singleton] at hz; subst hz; simpa using hc
  · intro rec s h
    rw [List.take_length] at h
    rw [hfin]
    refine ⟨-1, rfl, ?_⟩
    have : l.any p = false := by rw [List.any_eq_false]; intro y hy; simp [h y hy]
    rw [this]; decide
theorem Nw {α : Type} {f : (Int → Option Bool) → Int → Option Bool} (l : List α) (p : α → Bool) (hl : l.length ≤ 2 ^ 30)
    (hstep : ∀ (rec : Int → Option Bool) (i : Nat) (y : α), l[i]? = some y → f rec (i : Int) = if p y = true then some true else rec (i64 ((i : Int) + 1)))
    (hfin : ∀ rec : Int → Option Bool, f rec (l.length : Int) = some false) : am FU f 0 = some (l.any p) := by
  refine gr (f := f) l (fun (_ : Unit) i => i) (fun _ i => ∀ y ∈ l.take i, p y = false) (fun o => o = some (l.any p)) (by omega) ?_ ?_ () (by simp)
  · rintro rec s i y hi hy h
    rw [hstep _ _ _ hy, gl (by omega)]
    by_cases hc : p y = true
    · left
      rw [if_pos hc, List.any_eq_true.2 ⟨y, List.mem_of_getElem? hy, hc⟩]
    · right
      rw [if_neg hc]
      refine ⟨(), rfl, fun z hz => ?_⟩
      rw [j3 hy] at hz
      rcases List.mem_append.1 hz with hz | hz
      · exact h z hz
      · rw [List.mem_singleton] at hz; subst hz; simpa using hc
  · intro rec s h
    rw [List.take_length] at h
    rw [hfin]
    have : l.any p = false := by rw [List.any_eq_false]; intro y hy; simp [h y hy]
    rw [this]
theorem Ea {α σ ρ τ : Type} {f : (σ → Option ρ) → σ → Option ρ} (l : List α) (e : τ → Int → σ) (g : τ → α → τ) (out : τ → Option ρ) (hl : l.length ≤ 2 ^ 30) (s0 : τ) (J : τ → Nat → Prop) (h0 : J s0 0)
    (hstep : ∀ (rec : σ → Option ρ) (s : τ) (i : Nat) (y : α), l[i]? = some y → J s i → J (g s y) (i + 1) ∧ f rec (e s (i : Int)) = rec (e (g s y) (i64 ((i : Int) + 1))))
    (hfin : ∀ (rec : σ → Option ρ) (s : τ), J s l.length → f rec (e s (l.length : Int)) = out s) : am FU f (e s0 0) = out (l.foldl g s0) := by
  refine gr (f := f) l e (fun s i => s = (l.take i).foldl g s0 ∧ J s i) (fun o => o = out (l.foldl g s0)) (by omega) ?_ ?_ s0 ⟨by simp, h0⟩
  · rintro rec s i y hi hy ⟨rfl, hJ⟩
    right
    obtain ⟨h1, h2⟩ := hstep rec _ i y hy hJ
    rw [h2, gl (by omega)]
    exact ⟨_, rfl, (Mo hy).symm, h1⟩
  · rintro rec s ⟨rfl, hJ⟩
    rw [hfin _ _ hJ, List.take_length]
end Go.PL
namespace Go.PL
open Go Go.SX
def vld (f : api_Fact) : Bool := (ce f).getD false
def cur (f : api_Fact) : Bool := vld f && !f.Withdrawn
theorem yk (f : api_Fact) : ce f = some (vld f) := by
  obtain ⟨b, h1, h2, _⟩ := Ke f
  unfold vld; rw [h2]; rfl
theorem A0 (f : api_Fact) : oo f = some (vld f) := by
  obtain ⟨b, h1, h2, _⟩ := Ke f
  unfold vld; rw [h2, h1]; rfl
theorem Lx (f : api_Fact) : rk f = some (cur f) := by
  unfold rk cur
  rw [A0, Option.bind_some, bw, Option.bind_some]
theorem Db (l : List api_Fact) (hl : l.length ≤ 2 ^ 30) : ge l = some (l.filter cur) := by
  unfold ge
  refine Au (k := 112) l cur hl (by omega) (fun rec s i y hy => ?_) fun rec s => ?_
  · have hi := (List.getElem?_eq_some_iff.1 hy).1
    unfold ni
    dsimp only
    rw [if_pos (ox hi)]
    simp only [d6 hy, Option.bind_some, yk, bw]
    rfl
  · unfold ni
    dsimp only
    rw [if_neg (jt _)]
theorem Cy (l : List api_Fact) (hl : l.length ≤ 2 ^ 30) : ot l = some (l.filter cur) := by
  unfold ot iz
  rw [Au (k := 112) l cur hl (by omega) (fun rec s i y hy => ?_) fun rec s => ?_, Option.bind_some]
  · have hi := (List.getElem?_eq_some_iff.1 hy).1
    unfold g7
    dsimp only
    rw [if_pos (ox hi)]
    simp only [d6 hy, Option.bind_some, Lx]
  · unfold g7
    dsimp only
    rw [if_neg (jt _)]
def ofP (l : List api_Fact) (p : Int) : List api_Fact := l.filter fun f => f.Person == p
theorem yb (l : List api_Fact) (p : Int) : (ofP l p).length ≤ l.length := List.length_filter_le _ _
theorem Ly (l : List api_Fact) (p : Int) (hl : l.length ≤ 2 ^ 30) : ro l p = some (ofP l p) := by
  unfold ro kc ofP
  rw [Au (k := 112) l (fun f => f.Person == p) hl (by omega) (fun rec s i y hy => ?_) fun rec s => ?_, Option.bind_some]
  · have hi := (List.getElem?_eq_some_iff.1 hy).1
    unfold iv Cw
    dsimp only
    rw [if_pos (ox hi)]
    simp only [d6 hy, Option.bind_some]
  · unfold iv
    dsimp only
    rw [if_neg (jt _)]
theorem a9s (l : List api_Fact) (p : Int) (hl : l.length ≤ 2 ^ 30) : q0 l p = some (ofP l p) := by
  unfold q0 ofP
  refine Au (k := 112) l (fun f => f.Person == p) hl (by omega) (fun rec s i y hy => ?_) fun rec s => ?_
  · have hi := (List.getElem?_eq_some_iff.1 hy).1
    unfold tj
    dsimp only
    rw [if_pos (ox hi)]
    simp only [d6 hy, Option.bind_some]
  · unfold tj
    dsimp only
    rw [if_neg (jt _)]
def Ue (kind : Int) (s : Int × Bool) (y : api_Fact) : Int × Bool := if (y.Kind == kind) && (!s.2 || decide (y.Span.From < s.1)) then (y.Span.From, true) else s
theorem a8e (l : List api_Fact) (kind : Int) (hl : l.length ≤ 2 ^ 30) : yx l kind = some ((l.filter cur).foldl (Ue kind) (0, false)) := by
  rw [List.foldl_filter]
  unfold yx
  refine Ea (f := tk l kind) l (fun (s : Int × Bool) i => (s.1, s.2, i)) (fun x y => if cur y = true then Ue kind x y else x) (fun s => some s) hl (0, false) (fun _ _ => True) trivial (fun rec s i y hy _ => ⟨trivial, ?_⟩) fun rec s _ => ?_
  · have hi := (List.getElem?_eq_some_iff.1 hy).1
    unfold tk
    dsimp only
    rw [if_pos (ox hi)]
    simp only [d6 hy, Option.bind_some, Lx, dl, bw]
    unfold Ue
    cases cur y
    · simp
    · simp only [Bool.true_and, if_true]
      by_cases hc : (y.Kind == kind && (!s.2 || decide (y.Span.From < s.1))) = true
      · rw [if_pos hc, if_pos hc]
      · rw [if_neg hc, if_neg hc]
  · unfold tk
    dsimp only
    rw [if_neg (jt _)]
theorem a2q (l : List api_Fact) (kind : Int) (hl : l.length ≤ 2 ^ 30) : pk l kind = some ((l.filter cur).foldl (Ue kind) (0, false)) := by
  have hq : (l.filter cur).length ≤ 2 ^ 30 := Nat.le_trans (List.length_filter_le cur l) hl
  unfold pk
  rw [Db l hl, Option.bind_some]
  generalize l.filter cur = q at hq
  refine Ea (f := l9 kind) q (fun (s : Int × Bool) i => (q, s.1, s.2, i)) (Ue kind) (fun s => some s) hq (0, false) (fun _ _ => True) trivial (fun rec s i y hy _ => ⟨trivial, ?_⟩) fun rec s _ => ?_
  · have hi := (List.getElem?_eq_some_iff.1 hy).1
    unfold l9
    dsimp only
    rw [if_pos (ox hi)]
    simp only [d6 hy, Option.bind_some, dl, bw]
    unfold Ue
    by_cases hc : (y.Kind == kind && (!s.2 || decide (y.Span.From < s.1))) = true
    · rw [if_pos hc, if_pos hc]
    · rw [if_neg hc, if_neg hc]
  · unfold l9
    dsimp only
    rw [if_neg (jt _)]
def Fe (l : List api_Fact) : Int × Bool := (l.filter cur).foldl (Ue 12) (0, false)
theorem Dx (l : List api_Fact) (hl : l.length ≤ 2 ^ 30) : qc l = some (Fe l) := by
  unfold qc; rw [a8e l 12 hl]; rfl
theorem Rw (l : List api_Fact) (hl : l.length ≤ 2 ^ 30) : ln l = some (Fe l) := by
  unfold ln; rw [a2q l 12 hl]; rfl
def ii (l : List api_Fact) (d : Int) : Bool := !(Fe l).2 || decide ((Fe l).1 ≥ d)
theorem A4 (l : List api_Fact) (p d : Int) (hl : l.length ≤ 2 ^ 30) : dp l p d = some (ii (ofP l p) d) := by
  unfold dp
  rw [a9s l p hl, Option.bind_some, Rw _ (Nat.le_trans (yb l p) hl), Option.bind_some, dl, Option.bind_some]
  rfl
end Go.PL
namespace Go.PL
open Go Go.SX
def ne (n : Int) : Nat → List Int
  | 0 => []
  | k + 1 => IntKind.u8.wrap (adc .i64 n (8 * k)) :: ne n k
theorem li (n : Int) : ∀ k, (ne n k).length = k
  | 0 => rfl
  | k + 1 => by simp [ne, li n k]
theorem Ln (b : List Int) (n : Int) (k : Nat) (hk : k ≤ 8) (hb : b.length ≤ 1000000) : aw b n (k : Int) = some (b ++ ne n k) := by
  unfold aw
  have := ko (f := s7 n) (fun st => ∃ (q : List Int) (j : Nat), st = (q, (j : Int) - 1) ∧ j ≤ k ∧ q ++ ne n j = b ++ ne n k) (fun st => (st.2 + 1).toNat) (fun r => r = b ++ ne n k)
    (s := (b, i64 ((k : Int) - 1))) ⟨b, k, by rw [au (by omega) (by omega)], Nat.le_refl _, rfl⟩ (by rw [au (by omega) (by omega)]; dsimp only; omega) ?_
  · obtain ⟨r, h1, h2⟩ := this; rw [h1, h2]
  · rintro st rec ⟨q, j, rfl, hj, hq⟩
    unfold s7
    dsimp only
    cases j with
    | zero =>
      left
      rw [if_neg (by simp)]
      refine ⟨_, rfl, ?_⟩
      simpa [ne] using hq
    | succ j =>
      right
      have e1 : ((j + 1 : Nat) : Int) - 1 = (j : Int) := by omega
      have hql : q.length ≤ 1000008 := by
        have := congrArg List.length hq
        rw [List.length_append, List.length_append, li, li] at this; omega
      rw [e1, if_pos (by simp), au (n := 8 * (j : Int)) (by omega) (by omega), a3p (by omega) (by omega)]
      unfold X6
      rw [if_neg (by omega), Option.bind_some, de (by simp; omega), Option.bind_some, au (n := (j : Int) - 1) (by omega) (by omega)]
      refine ⟨_, rfl, ⟨_, j, rfl, by omega, ?_⟩, by dsimp only; omega⟩
      rw [← hq, List.append_assoc]; rfl
theorem a3e (b : List Int) (k : Nat) (xs : List Int) (hk : k ≤ 8) (hx : xs.length ≤ 1000) (hb : b.length ≤ 100000) : b9 b (k : Int) xs = some (b ++ xs.flatMap fun n => ne n k) := by
  unfold b9
  have hfl : ∀ ys : List Int, (ys.flatMap fun n => ne n k).length = ys.length * k := by
    intro ys
    induction ys with
    | nil => simp
    | cons y ys ih => rw [List.flatMap_cons, List.length_append, ih, li, List.length_cons, Nat.succ_mul]; omega
  refine gr (f := lq xs (k : Int)) xs (fun s i => (s, i)) (fun s i => s = b ++ (xs.take i).flatMap fun n => ne n k) (fun o => o = some (b ++ xs.flatMap fun n => ne n k)) (by omega) ?_ ?_ b (by simp)
  · rintro rec s i y hi hy rfl
    right
    refine ⟨_, ?_, rfl⟩
    unfold lq
    dsimp only
    rw [if_pos (by simp; omega), d6 hy, Option.bind_some]
    have hlen : (b ++ (xs.take i).flatMap fun n => ne n k).length ≤ 108000 := by
      rw [List.length_append, hfl, List.length_take]
      have : min i xs.length * k ≤ 1000 * 8 := Nat.mul_le_mul (by omega) hk
      omega
    have htk : (xs.take (i + 1)).flatMap (fun n => ne n k) = ((xs.take i).flatMap fun n => ne n k) ++ ne y k := by rw [j3 hy, List.flatMap_append]; simp
    rw [htk, ← List.append_assoc]
    generalize (b ++ (xs.take i).flatMap fun n => ne n k) = c at hlen ⊢
    refine xx (f := q7 y rec (c, (i : Int))) (fun st => ∃ (q : List Int) (j : Nat), st = (q, (j : Int) - 1) ∧ j ≤ k ∧ q ++ ne y j = c ++ ne y k) (fun st => (st.2 + 1).toNat) (fun o => o = rec (c ++ ne y k, ((i + 1 : Nat) : Int)))
      (s := (c, i64 ((k : Int) - 1))) ⟨c, k, by rw [au (by omega) (by omega)], Nat.le_refl _, rfl⟩ (by rw [au (by omega) (by omega)]; dsimp only; omega) ?_
    rintro st rec2 ⟨q, j, rfl, hj, hq⟩
    unfold q7
    dsimp only
    cases j with
    | zero =>
      left
      rw [if_neg (by simp), gl (by omega)]
      congr 2
      simpa [ne] using hq
    | succ j =>
      right
      have e1 : ((j + 1 : Nat) : Int) - 1 = (j : Int) := by omega
      have hql : q.length ≤ 108008 := by
        have := congrArg List.length hq
        rw [List.length_append, List.length_append, li, li] at this; omega
      rw [e1, if_pos (by simp), au (n := 8 * (j : Int)) (by omega) (by omega)]
      unfold X6
      rw [if_neg (by omega), Option.bind_some, de (by simp; omega), Option.bind_some, au (n := (j : Int) - 1) (by omega) (by omega)]
      refine ⟨_, rfl, ⟨_, j, rfl, by omega, ?_⟩, by dsimp only; omega⟩
      rw [← hq, List.append_assoc]; rfl
  · rintro rec s rfl
    unfold lq
    dsimp only
    rw [if_neg (by simp), List.take_length]
def Lw (d : api_Fact) (c : Int) : List Int :=
  if c = 83 then ne d.State 1 else if c = 80 then ne d.Span.From 3 ++ ne d.Span.To 3 else if c = 84 then ne d.Seat 1 else if c = 72 then ne d.Share 1 else if c = 67 then ne d.Currency 2 else if c = 65 then ne d.Amount 4 else if c = 82 then ne d.Ref 1 else []
theorem a8l (d : api_Fact) (c : Int) : (Lw d c).length ≤ 6 := by
  unfold Lw
  repeat' split
  all_goals simp [li]
def Hs (s : ByteArray) : Prop := s.size ≤ 10 ∧ ∀ i : Nat, i < s.size → Bd s (i : Int) = some ((s.get! i).toNat : Int) ∧ (s.get! i).toNat < 128
def Gq (s : ByteArray) (i : Nat) : List Int := (List.range i).map fun j => ((s.get! j).toNat : Int)
theorem Ti (s : ByteArray) (i : Nat) : Gq s (i + 1) = Gq s i ++ [((s.get! i).toNat : Int)] := by unfold Gq; rw [List.range_succ, List.map_append]; rfl
theorem C8 (d : api_Fact) : ∀ l : List Int, (l.flatMap (Lw d)).length ≤ 6 * l.length
  | [] => by simp
  | c :: l => by
    have := C8 d l
    have h := a8l d c
    rw [List.flatMap_cons, List.length_append, List.length_cons]; omega
theorem ae1 (b : List Int) (k : Nat) (x : Int) (hk : k ≤ 8) (hb : b.length ≤ 100000) : b9 b (k : Int) [x] = some (b ++ ne x k) := by
  rw [a3e b k [x] hk (by simp) hb]; simp
set_option maxHeartbeats 1000000 in
theorem a1z (d : api_Fact) (s : ByteArray) (hs : Hs s) (b : List Int) (hb : b.length ≤ 1000) : am FU xt (d, b, (s, 0)) = some (b ++ (Gq s s.size).flatMap (Lw d)) := by
  have := ko (f := xt) (fun st => ∃ i : Nat, st = (d, b ++ (Gq s i).flatMap (Lw d), (s, (i : Int))) ∧ i ≤ s.size) (fun st => s.size - st.2.2.2.toNat) (fun r => r = b ++ (Gq s s.size).flatMap (Lw d))
    (s := (d, b, (s, 0))) ⟨0, by simp [Gq], Nat.zero_le _⟩ (by dsimp only; have := hs.1; omega) ?_
  · obtain ⟨r, h1, h2⟩ := this; rw [h1, h2]
  · rintro st rec ⟨i, rfl, hi⟩
    have hlen : (b ++ (Gq s i).flatMap (Lw d)).length ≤ 2000 := by
      have := C8 d (Gq s i)
      have hl : (Gq s i).length = i := by simp [Gq]
      have := hs.1
      rw [List.length_append]; omega
    unfold xt
    dsimp only
    by_cases h : i < s.size
    · right
      obtain ⟨_, h2⟩ := hs.2 i h
      have hn : N6 s (i : Int) = some (some ((s.get! i).toNat : Int)) := by unfold N6; rw [if_pos (by omega), Int.toNat_natCast, if_pos h2]
      rw [hn]
      refine ⟨(d, b ++ (Gq s (i + 1)).flatMap (Lw d), (s, ((i + 1 : Nat) : Int))), ?_, ⟨i + 1, rfl, h⟩, by simp only [Int.toNat_natCast]; omega⟩
      rw [Ti, List.flatMap_append, ← List.append_assoc]
      generalize b ++ (Gq s i).flatMap (Lw d) = q at hlen ⊢
      generalize ((s.get! i).toNat : Int) = c
      simp only [List.flatMap_cons, List.flatMap_nil, List.append_nil]
      have a1 : ∀ x, b9 q 1 [x] = some (q ++ ne x 1) := fun x => ae1 q 1 x (by omega) (by omega)
      have a2 : ∀ x, b9 q 2 [x] = some (q ++ ne x 2) := fun x => ae1 q 2 x (by omega) (by omega)
      have a4 : ∀ x, b9 q 4 [x] = some (q ++ ne x 4) := fun x => ae1 q 4 x (by omega) (by omega)
      have a3 : ∀ x y, b9 q 3 [x, y] = some (q ++ (ne x 3 ++ ne y 3)) := fun x y => by
        have := a3e q 3 [x, y] (by omega) (by simp) (by omega)
        simpa using this
      have ei : ((i : Int) + 1) = ((i + 1 : Nat) : Int) := by simp
      unfold Lw
      simp only [optC, a1, a2, a3, a4, Option.bind_some, beq_iff_eq, ei]
      repeat' split
      all_goals first | rfl | simp
    · left
      have : i = s.size := by omega
      subst this
      have hn : N6 s (s.size : Int) = none := by unfold N6; rw [if_neg (by omega)]
      rw [hn]
      exact ⟨_, rfl, rfl⟩
set_option maxHeartbeats 1000000 in
theorem a6j (d : api_Fact) (s : ByteArray) (hs : Hs s) (b : List Int) (hb : b.length ≤ 1000) : am FU (ld s) (d, b, 0) = some (b ++ (Gq s s.size).flatMap (Lw d)) := by
  have := ko (f := ld s) (fun st => ∃ i : Nat, st = (d, b ++ (Gq s i).flatMap (Lw d), (i : Int)) ∧ i ≤ s.size) (fun st => s.size - st.2.2.toNat) (fun r => r = b ++ (Gq s s.size).flatMap (Lw d))
    (s := (d, b, 0)) ⟨0, by simp [Gq], Nat.zero_le _⟩ (by dsimp only; have := hs.1; omega) ?_
  · obtain ⟨r, h1, h2⟩ := this; rw [h1, h2]
  · rintro st rec ⟨i, rfl, hi⟩
    have hs1 := hs.1
    have hlen : (b ++ (Gq s i).flatMap (Lw d)).length ≤ 2000 := by
      have := C8 d (Gq s i)
      have hl : (Gq s i).length = i := by simp [Gq]
      rw [List.length_append]; omega
    unfold ld
    dsimp only
    by_cases h : i < s.size
    · right
      obtain ⟨h1, _⟩ := hs.2 i h
      rw [if_pos (by simpa using h), h1, Option.bind_some, gl (by omega)]
      refine ⟨(d, b ++ (Gq s (i + 1)).flatMap (Lw d), ((i + 1 : Nat) : Int)), ?_, ⟨i + 1, rfl, h⟩, by simp only [Int.toNat_natCast]; omega⟩
      rw [Ti, List.flatMap_append, ← List.append_assoc]
      generalize b ++ (Gq s i).flatMap (Lw d) = q at hlen ⊢
      generalize ((s.get! i).toNat : Int) = c
      simp only [List.flatMap_cons, List.flatMap_nil, List.append_nil]
      have a1 : ∀ x, aw q x 1 = some (q ++ ne x 1) := fun x => Ln q x 1 (by omega) (by omega)
      have a2 : ∀ x, aw q x 2 = some (q ++ ne x 2) := fun x => Ln q x 2 (by omega) (by omega)
      have a4 : ∀ x, aw q x 4 = some (q ++ ne x 4) := fun x => Ln q x 4 (by omega) (by omega)
      have a3 : ∀ x, aw q x 3 = some (q ++ ne x 3) := fun x => Ln q x 3 (by omega) (by omega)
      have b3 : ∀ x y, aw (q ++ ne x 3) y 3 = some (q ++ (ne x 3 ++ ne y 3)) := fun x y => by
        rw [← List.append_assoc]; exact Ln _ y 3 (by omega) (by rw [List.length_append, li]; omega)
      unfold Lw
      simp only [a1, a2, a3, a4, b3, Option.bind_some, beq_iff_eq]
      repeat' split
      all_goals first | rfl | simp
    · left
      have : i = s.size := by omega
      subst this
      rw [if_neg (by simp)]
      exact ⟨_, rfl, rfl⟩
theorem Z7 : Hs sr := ⟨by decide, by decide⟩
theorem Qs : Hs nc := ⟨by decide, by decide⟩
theorem ac7 : Hs Bp := ⟨by decide, by decide⟩
theorem W2 : Hs q8 := ⟨by decide, by decide⟩
theorem a5y : Hs yy := ⟨by decide, by decide⟩
theorem acb : Hs Bg := ⟨by decide, by decide⟩
theorem ab9 : Hs Bb := ⟨by decide, by decide⟩
theorem aei : Hs Fs := ⟨by decide, by decide⟩
theorem N3 {k : Int} (h0 : 1 ≤ k) (h1 : k ≤ 14) : ∃ s, rq k = some s ∧ cw k = some s ∧ Hs s := by
  have : k = 1 ∨ k = 2 ∨ k = 3 ∨ k = 4 ∨ k = 5 ∨ k = 6 ∨ k = 7 ∨ k = 8 ∨ k = 9 ∨ k = 10 ∨ k = 11 ∨ k = 12 ∨ k = 13 ∨ k = 14 := by omega
  rcases this with rfl | rfl | rfl | rfl | rfl | rfl | rfl | rfl | rfl | rfl | rfl | rfl | rfl | rfl
  exact ⟨sr, by kernel_rfl, by kernel_rfl, Z7⟩
  exact ⟨nc, by kernel_rfl, by kernel_rfl, Qs⟩
  exact ⟨nc, by kernel_rfl, by kernel_rfl, Qs⟩
  exact ⟨Bp, by kernel_rfl, by kernel_rfl, ac7⟩
  exact ⟨q8, by kernel_rfl, by kernel_rfl, W2⟩
  exact ⟨yy, by kernel_rfl, by kernel_rfl, a5y⟩
  exact ⟨q8, by kernel_rfl, by kernel_rfl, W2⟩
  exact ⟨q8, by kernel_rfl, by kernel_rfl, W2⟩
  exact ⟨q8, by kernel_rfl, by kernel_rfl, W2⟩
  exact ⟨Bg, by kernel_rfl, by kernel_rfl, acb⟩
  exact ⟨Bb, by kernel_rfl, by kernel_rfl, ab9⟩
  exact ⟨Bb, by kernel_rfl, by kernel_rfl, ab9⟩
  exact ⟨Bb, by kernel_rfl, by kernel_rfl, ab9⟩
  exact ⟨Fs, by kernel_rfl, by kernel_rfl, aei⟩
theorem He {d : api_Fact} (h : vld d = true) : 1 ≤ d.Kind ∧ d.Kind ≤ 14 := by
  by_cases hk : 1 ≤ d.Kind ∧ d.Kind ≤ 14
  · exact hk
  · exfalso
    have h2 := (W3 (k := d.Kind) (by omega)).2
    have hv := yk d
    rw [h] at hv
    unfold ce at hv
    simp only [dl, Option.bind_some, h2] at hv
    simp at hv
def a21 (d : api_Fact) : List Int := [if d.Withdrawn = true then (1 : Int) else 0, d.Person, d.Kind].flatMap (fun n => ne n 1) ++ ((Gq ((rq d.Kind).getD ng) ((rq d.Kind).getD ng).size).flatMap (Lw d))
def Kt (d : api_Fact) : List Int := ne d.Issuer 1 ++ (ne d.Number 2 ++ (ne d.Version 1 ++ a21 d))
theorem Mp (d : api_Fact) (h : vld d = true) : Ab d = some (Kt d) := by
  obtain ⟨k0, k1⟩ := He h
  obtain ⟨s, e1, _, hs⟩ := N3 k0 k1
  have key : ∀ x : Int, xu (d, x) = some (ne d.Issuer 1 ++ (ne d.Number 2 ++ (ne d.Version 1 ++ ([x, d.Person, d.Kind].flatMap (fun n => ne n 1) ++ (Gq s s.size).flatMap (Lw d))))) := by
    intro x
    unfold xu
    dsimp only
    have a1 := ae1 [] 1 d.Issuer (by omega) (by simp)
    have a2 := ae1 ([] ++ ne d.Issuer 1) 2 d.Number (by omega) (by simp [li])
    have a3 := a3e ([] ++ ne d.Issuer 1 ++ ne d.Number 2) 1 [d.Version, x, d.Person, d.Kind] (by omega) (by simp) (by simp [li])
    have c1 : ((1 : Nat) : Int) = 1 := rfl
    have c2 : ((2 : Nat) : Int) = 2 := rfl
    rw [c1] at a1 a3; rw [c2] at a2
    rw [a1, Option.bind_some, a2, Option.bind_some, a3, Option.bind_some, e1, Option.bind_some, a1z d s hs _ (by simp [li])]
    simp
  unfold Ab Kt a21
  rw [A0, h, Option.bind_some, if_neg (by simp), e1]
  cases hw : d.Withdrawn
  · rw [if_neg (by simp)]; rw [oy, key]; simp
  · rw [if_pos rfl]; rw [oy, key]; simp
theorem Rj (d : api_Fact) (h : vld d = true) : ly d = some (Kt d) := by
  obtain ⟨k0, k1⟩ := He h
  obtain ⟨s, e1, e2, hs⟩ := N3 k0 k1
  have key : ∀ x : Int, ll (d, x) = some (ne d.Issuer 1 ++ (ne d.Number 2 ++ (ne d.Version 1 ++ ([x, d.Person, d.Kind].flatMap (fun n => ne n 1) ++ (Gq s s.size).flatMap (Lw d))))) := by
    intro x
    unfold ll
    dsimp only
    have B : ∀ (b : List Int) (n : Int) (k : Nat), k ≤ 8 → b.length ≤ 1000000 → aw b n (k : Int) = some (b ++ ne n k) := fun b n k h1 h2 => Ln b n k h1 h2
    have a1 := B [] d.Issuer 1 (by omega) (by simp)
    have a2 := B ([] ++ ne d.Issuer 1) d.Number 2 (by omega) (by simp [li])
    have a3 := B ([] ++ ne d.Issuer 1 ++ ne d.Number 2) d.Version 1 (by omega) (by simp [li])
    have a4 := B ([] ++ ne d.Issuer 1 ++ ne d.Number 2 ++ ne d.Version 1) x 1 (by omega) (by simp [li])
    have a5 := B ([] ++ ne d.Issuer 1 ++ ne d.Number 2 ++ ne d.Version 1 ++ ne x 1) d.Person 1 (by omega) (by simp [li])
    have a6 := B ([] ++ ne d.Issuer 1 ++ ne d.Number 2 ++ ne d.Version 1 ++ ne x 1 ++ ne d.Person 1) d.Kind 1 (by omega) (by simp [li])
    have c1 : ((1 : Nat) : Int) = 1 := rfl
    have c2 : ((2 : Nat) : Int) = 2 := rfl
    rw [c1] at a1 a3 a4 a5 a6; rw [c2] at a2
    rw [a1, Option.bind_some, a2, Option.bind_some, a3, Option.bind_some, a4, Option.bind_some, a5, Option.bind_some, a6, Option.bind_some, e2, Option.bind_some, a6j d s hs _ (by simp [li])]
    simp
  unfold ly Kt a21
  rw [yk, h, Option.bind_some, if_neg (by simp), e1]
  cases hw : d.Withdrawn
  · rw [if_neg (by simp)]; rw [oy, key]; simp
  · rw [if_pos rfl]; rw [oy, key]; simp
end Go.PL
namespace Go.PL
open Go Go.SX
theorem Xs : ∀ (x y : List UInt8), (Lib.compareBytes x y < 0) ↔ Op.bytesLess x y = true
  | [], [] => by simp [Lib.compareBytes, Op.bytesLess]
  | [], _ :: _ => by simp [Lib.compareBytes, Op.bytesLess]
  | _ :: _, [] => by simp [Lib.compareBytes, Op.bytesLess]
  | a :: x, b :: y => by
    have ih := Xs x y
    unfold Lib.compareBytes Op.bytesLess
    by_cases h1 : a < b
    · simp [h1]
    · by_cases h2 : b < a
      · have h3 : (a == b) = false := by
          rw [beq_eq_false_iff_ne]; rintro rfl; exact h1 h2
        simp [h1, h2, h3]
      · have h3 : a = b := by
          have e1 : ¬ a.toNat < b.toNat := h1
          have e2 : ¬ b.toNat < a.toNat := h2
          exact UInt8.toNat_inj.1 (by omega)
        subst h3
        simp [h1, ih]
theorem Wn (p x y : List UInt8) : Op.bytesLess (p ++ x) (p ++ y) = Op.bytesLess x y := by
  induction p with
  | nil => rfl
  | cons a p ih =>
    rw [List.cons_append, List.cons_append]
    show (decide (a < a) || (a == a && Op.bytesLess (p ++ x) (p ++ y))) = _
    rw [ih]
    have : ¬ a < a := by
      have : ¬ a.toNat < a.toNat := Nat.lt_irrefl _
      exact this
    simp [this]
theorem vl (x y : List Int) : Lib.bytesOf (x ++ y) = Lib.bytesOf x ++ Lib.bytesOf y := by unfold Lib.bytesOf; simp
theorem Hl (l : List Int) : (Co l).toList = Lib.bytesOf l := by
  unfold Co; rw [Lib.toList_data]
theorem Ay {d : api_Fact} (h : vld d = true) : (0 ≤ d.Issuer ∧ d.Issuer ≤ 5) ∧ (1 ≤ d.Number ∧ d.Number ≤ 999) ∧ 1 ≤ d.Version ∧ d.Version ≤ 99 ∧ 1 ≤ d.Person ∧ d.Person ≤ 99 := by
  have hv := yk d
  rw [h] at hv
  obtain ⟨s, e1, e2, _⟩ := N3 (He h).1 (He h).2
  unfold ce at hv
  simp only [dl, Option.bind_some, e2] at hv
  by_cases hb : (((((((decide (d.Issuer < 0) || decide (6 ≤ d.Issuer)) || decide (d.Number < 1)) || decide (999 < d.Number)) || decide (d.Version < 1)) || decide (99 < d.Version)) || decide (d.Person < 1)) || decide (99 < d.Person)) = true
  · have hb2 : (((((((decide (d.Issuer < 0) || decide (d.Issuer ≥ 6)) || decide (d.Number < 1)) || decide (d.Number > 999)) || decide (d.Version < 1)) || decide (d.Version > 99)) || decide (d.Person < 1)) || decide (d.Person > 99)) = true := hb
    rw [hb2, Bool.true_or, if_pos rfl] at hv; cases hv
  · simp at hb; omega
theorem Xd {v : Int} (h0 : 1 ≤ v) (h1 : v ≤ 99) : ne v 1 = [v] := by
  unfold ne ne adc
  have e : IntKind.u8.wrap (v.fdiv (2 ^ (min (8 * 0 : Int).toNat IntKind.i64.bits))) = v := by
    have : (2 ^ (min (8 * 0 : Int).toNat IntKind.i64.bits) : Int) = 1 := by decide
    rw [this, Int.fdiv_one, IntKind.wrap_u8]; omega
  have e0 : ((8 * ((0 : Nat) : Int)) : Int) = (8 * 0 : Int) := by simp
  rw [e0, e]
def Jj (a b : api_Fact) : Bool := Op.bytesLess (Lib.bytesOf (Kt a)) (Lib.bytesOf (Kt b))
theorem a31 {a b : api_Fact} (ha : vld a = true) (hb : vld b = true) : E3 a b = some (Jj a b) := by
  unfold E3
  rw [A0, A0, ha, hb]
  simp only [Option.bind_some, Bool.not_true, Bool.false_eq_true, if_false]
  rw [Mp a ha, Mp b hb]
  simp only [Option.bind_some]
  unfold Ao yn ae6 Jj
  simp only [Option.bind_some, List.map_id']
  congr 1
  rw [Bool.eq_iff_iff, decide_eq_true_eq]
  exact Xs _ _
theorem a6p {a b : api_Fact} (ha : vld a = true) (hb : vld b = true) (h1 : a.Issuer = b.Issuer) (h2 : a.Number = b.Number) : qr a b = some (Jj a b) := by
  have va := (Ay ha).2.2
  have vb := (Ay hb).2.2
  unfold qr kh
  rw [yk, yk, ha, hb]
  simp only [Option.bind_some, Bool.not_true, Bool.false_eq_true, if_false]
  rw [if_neg (by simp [h1]), h2, Int.sub_self, Option.bind_some, if_neg (by decide)]
  have hpre : Jj a b = Op.bytesLess (Lib.bytesOf (ne a.Version 1 ++ a21 a)) (Lib.bytesOf (ne b.Version 1 ++ a21 b)) := by
    unfold Jj Kt
    rw [h1, h2, vl, vl, vl (ne b.Issuer 1), vl (ne b.Number 2), Wn, Wn]
  by_cases hv : a.Version = b.Version
  · rw [if_neg (by simp [hv]), Rj a ha, Option.bind_some, Rj b hb, Option.bind_some, Hl, Hl]; simp [Jj]
  · rw [if_pos (by simpa using hv), hpre, Xd va.1 va.2.1, Xd vb.1 vb.2.1]
    congr 1
    rw [vl, vl]
    show _ = Op.bytesLess (a.Version.toNat.toUInt8 :: _) (b.Version.toNat.toUInt8 :: _)
    unfold Op.bytesLess
    have e1 : (a.Version.toNat.toUInt8).toNat = a.Version.toNat := by
      rw [Nat.toUInt8_eq, UInt8.toNat_ofNat']; omega
    have e2 : (b.Version.toNat.toUInt8).toNat = b.Version.toNat := by
      rw [Nat.toUInt8_eq, UInt8.toNat_ofNat']; omega
    have h3 : (a.Version.toNat.toUInt8 == b.Version.toNat.toUInt8) = false := by
      rw [beq_eq_false_iff_ne]
      intro h
      have := congrArg UInt8.toNat h
      omega
    rw [h3]
    have h4 : (a.Version.toNat.toUInt8 < b.Version.toNat.toUInt8) ↔ a.Version < b.Version := by
      rw [UInt8.lt_iff_toNat_lt, e1, e2]; omega
    simp [h4]
end Go.PL
namespace Go.PL
open Go Go.SX
def Ak (a b : api_Fact) : Prop := a.Issuer < b.Issuer ∨ (a.Issuer = b.Issuer ∧ a.Number < b.Number)
instance (a b : api_Fact) : Decidable (Ak a b) := by unfold Ak; exact inferInstance
def D0 : List api_Fact → api_Fact → List api_Fact
  | [], f => [f]
  | a :: t, f => if Ak a f then a :: D0 t f else if Ak f a then f :: a :: t else (if Jj a f = true then f else a) :: t
theorem Xl (f : api_Fact) : ∀ l, (D0 l f).length ≤ l.length + 1
  | [] => Nat.le_refl _
  | a :: t => by
    have := Xl f t
    unfold D0
    split
    · simp; omega
    · split <;> simp
theorem P0 {f u : api_Fact} : ∀ {l : List api_Fact}, u ∈ D0 l f → u ∈ l ∨ u = f
  | [], h => by rw [D0, List.mem_singleton] at h; exact .inr h
  | a :: t, h => by
    unfold D0 at h
    split at h
    · rcases List.mem_cons.1 h with h | h
      · exact .inl (h ▸ List.mem_cons_self ..)
      · exact (P0 h).imp (List.mem_cons_of_mem _) id
    · split at h
      · rcases List.mem_cons.1 h with h | h
        · exact .inr h
        · exact .inl h
      · rcases List.mem_cons.1 h with h | h
        · split at h
          · exact .inr h
          · exact .inl (h ▸ List.mem_cons_self ..)
        · exact .inl (List.mem_cons_of_mem _ h)
theorem Lh {a b c : api_Fact} (h1 : Ak a b) (h2 : Ak b c) : Ak a c := by unfold Ak at *; omega
theorem We {f : api_Fact} : ∀ {l : List api_Fact}, l.Pairwise Ak → (D0 l f).Pairwise Ak
  | [], _ => List.pairwise_singleton _ _
  | a :: t, h => by
    obtain ⟨h1, h2⟩ := List.pairwise_cons.1 h
    unfold D0
    split
    · rename_i hc
      refine List.pairwise_cons.2 ⟨fun u hu => ?_, We h2⟩
      rcases P0 hu with h | h
      · exact h1 u h
      · rw [h]; exact hc
    · rename_i hn
      split
      · rename_i hc
        refine List.pairwise_cons.2 ⟨fun u hu => ?_, h⟩
        rcases List.mem_cons.1 hu with h | h
        · rw [h]; exact hc
        · exact Lh hc (h1 u h)
      · rename_i hm
        refine List.pairwise_cons.2 ⟨fun u hu => ?_, h2⟩
        have := h1 u hu
        split
        · unfold Ak at *; omega
        · exact this
theorem Hf {f : api_Fact} {q : List api_Fact} : ∀ {p : List api_Fact}, (∀ u ∈ p, Ak u f) → D0 (p ++ q) f = p ++ D0 q f
  | [], _ => rfl
  | a :: p, h => by
    rw [List.cons_append, List.cons_append, ← Hf (p := p) fun u hu => h u (List.mem_cons_of_mem _ hu)]
    show (if Ak a f then _ else _) = _
    rw [if_pos (h a (List.mem_cons_self ..))]
theorem aao {f : api_Fact} {q : List api_Fact} (h : ∀ u ∈ q, Ak f u) : D0 q f = f :: q := by
  cases q with
  | nil => rfl
  | cons a t =>
    have := h a (List.mem_cons_self ..)
    unfold D0
    rw [if_neg (by unfold Ak at *; omega), if_pos this]
theorem ab7 {f a : api_Fact} {q : List api_Fact} (h1 : a.Issuer = f.Issuer) (h2 : a.Number = f.Number) : D0 (a :: q) f = (if Jj a f = true then f else a) :: q := by
  unfold D0
  rw [if_neg (by unfold Ak; omega), if_neg (by unfold Ak; omega)]
theorem a8r (x y : Int) : bv x y = some (if x < y then -1 else if y < x then 1 else 0) := by
  unfold bv oa
  simp only [bne_self_eq_false, Option.bind_some, Bool.false_eq_true, if_false, decide_eq_true_eq]
  split
  · rfl
  · split <;> rfl
theorem ab2 (a b : api_Fact) : qp a b = some (if Ak a b then -1 else if Ak b a then 1 else 0) := by
  have hor : ∀ x y : Int, lv [x, y] = some (if x ≠ 0 then x else y) := by
    intro x y
    unfold lv
    refine gr (f := l7 [x, y]) [x, y] (fun (_ : Unit) i => i) (fun _ i => (1 ≤ i → x = 0) ∧ (2 ≤ i → y = 0)) (fun o => o = some (if x ≠ 0 then x else y)) (by simp) ?_ ?_ () ⟨fun h => by omega, fun h => by omega⟩
    · rintro rec _ i v hi hv ⟨h1, h2⟩
      unfold l7
      rw [if_pos (by simp at hi ⊢; omega), d6 hv, Option.bind_some, gl (by simp at hi; omega)]
      simp at hi
      have : i = 0 ∨ i = 1 := by omega
      rcases this with rfl | rfl
      · simp at hv; subst hv
        by_cases hx : x = 0
        · right; rw [if_neg (by simp [hx])]; exact ⟨(), rfl, fun _ => hx, fun h => by omega⟩
        · left; rw [if_pos (by simp [hx]), if_pos hx]
      · simp at hv; subst hv
        have hx := h1 (Nat.le_refl _)
        by_cases hy : y = 0
        · right; rw [if_neg (by simp [hy])]; exact ⟨(), rfl, fun _ => hx, fun _ => hy⟩
        · left; rw [if_pos (by simp [hy]), if_neg (by simp [hx])]
    · rintro rec _ ⟨h1, h2⟩
      have hx := h1 (by simp)
      have hy := h2 (by simp)
      unfold l7
      rw [if_neg (by simp), hx, hy]; rfl
  unfold qp
  rw [a8r, Option.bind_some, a8r, Option.bind_some, hor, Option.bind_some]
  congr 1
  unfold Ak
  by_cases h1 : a.Issuer < b.Issuer
  · simp [h1]
  · by_cases h2 : b.Issuer < a.Issuer
    · have : ¬ a.Issuer = b.Issuer := by omega
      have : ¬ b.Issuer = a.Issuer := by omega
      simp [*]
    · have e : a.Issuer = b.Issuer := by omega
      simp [e]
theorem Yi {a b : api_Fact} (ha : vld a = true) (hb : vld b = true) : vp a b = some (if Jj a b = true then b else a) := by
  unfold vp
  rw [a31 ha hb, Option.bind_some]
  split <;> rfl
def a03 := aj
theorem Tt (k : Nat) (d x : List api_Fact) (hl : x.length + d.length ≤ 2 ^ 30) : am (k + 1) a03 (d, [], x) = some (x ++ d) := by
  show a03 (am k a03) (d, [], x) = _
  unfold a03 aj
  dsimp only
  rw [bw, Option.bind_some, if_neg (by simp), de (by omega), Option.bind_some, de (by simp; omega), Option.bind_some, List.append_nil]
theorem a5c {f : api_Fact} (hf : vld f = true) : ∀ (d x : List api_Fact) (k : Nat), (∀ u ∈ d, vld u = true) → x.length + d.length ≤ 2 ^ 29 → d.length + 2 ≤ k → am k a03 (d, [f], x) = some (x ++ D0 d f)
  | [], x, k, _, hl, hk => by
    obtain ⟨k, rfl⟩ : ∃ j, k = j + 1 := ⟨k - 1, by omega⟩
    show a03 (am k a03) ([], [f], x) = _
    unfold a03 aj
    dsimp only
    rw [bw, Option.bind_some, if_neg (by simp), de (by simp at hl ⊢; omega), Option.bind_some, de (by simp at hl ⊢; omega), Option.bind_some, List.append_nil]; rfl
  | a :: d, x, k, hd, hl, hk => by
    obtain ⟨k, rfl⟩ : ∃ j, k = j + 1 := ⟨k - 1, by omega⟩
    simp only [List.length_cons] at hl hk
    have ha := hd a (List.mem_cons_self ..)
    have hd' : ∀ u ∈ d, vld u = true := fun u hu => hd u (List.mem_cons_of_mem _ hu)
    have s1 : fp (a :: d) 1 ((a :: d).length : Int) = some d := by
      rw [rn (by omega) (by simp; omega) (Int.le_refl _)]; simp
    have s2 : fp [f] 1 (([f] : List api_Fact).length : Int) = some [] := by
      rw [rn (by omega) (by simp) (Int.le_refl _)]; rfl
    have ih := a5c hf d (x ++ [a]) k hd' (by simp; omega) (by omega)
    show a03 (am k a03) (a :: d, [f], x) = _
    generalize hLP : am k a03 = LP at ih
    unfold a03 aj
    dsimp only
    have g1 : av (a :: d) 0 = some a := rfl
    have g2 : av [f] 0 = some f := rfl
    rw [bw, Option.bind_some, if_pos (by simp)]
    simp only [g1, g2, Option.bind_some, ab2]
    unfold D0
    by_cases h1 : Ak a f
    · rw [if_pos h1, if_pos h1, if_pos (by decide), de (by simp; omega), Option.bind_some, s1, Option.bind_some, ih]; simp
    · rw [if_neg h1, if_neg h1]
      by_cases h2 : Ak f a
      · rw [if_pos h2, if_pos h2, if_neg (by decide), if_pos (by decide), de (by simp; omega), Option.bind_some, s2, Option.bind_some, ← hLP]
        obtain ⟨k, rfl⟩ : ∃ j, k = j + 1 := ⟨k - 1, by omega⟩
        rw [Tt k (a :: d) (x ++ [f]) (by simp; omega)]; simp
      · rw [if_neg h2, if_neg h2, if_neg (by decide), if_neg (by decide)]
        rw [Yi ha hf, Option.bind_some, de (by simp; omega), Option.bind_some, s1, Option.bind_some, s2, Option.bind_some, ← hLP]
        obtain ⟨k, rfl⟩ : ∃ j, k = j + 1 := ⟨k - 1, by omega⟩
        rw [Tt k d _ (by simp; omega)]; simp
def wb (l : List api_Fact) : List api_Fact := (l.filter vld).foldl D0 []
theorem Ma : ∀ (l out : List api_Fact), (∀ u ∈ l, vld u = true) → (∀ u ∈ out, vld u = true) → out.Pairwise Ak → (∀ u ∈ l.foldl D0 out, vld u = true) ∧ (l.foldl D0 out).Pairwise Ak ∧ (l.foldl D0 out).length ≤ out.length + l.length
  | [], out, _, h2, h3 => ⟨h2, h3, by simp⟩
  | f :: l, out, h1, h2, h3 => by
    have := Ma l (D0 out f) (fun u hu => h1 u (List.mem_cons_of_mem _ hu)) (fun u hu => (P0 hu).elim (h2 u) (fun e => e ▸ h1 f (List.mem_cons_self ..))) (We h3)
    have hl := Xl f out
    refine ⟨this.1, this.2.1, ?_⟩
    have := this.2.2
    simp only [List.foldl_cons, List.length_cons] at this ⊢; omega
theorem Ht (l : List api_Fact) : (∀ u ∈ wb l, vld u = true) ∧ (wb l).Pairwise Ak ∧ (wb l).length ≤ l.length := by
  have := Ma (l.filter vld) [] (fun u hu => (List.mem_filter.1 hu).2) (fun u h => (by cases h)) .nil
  refine ⟨this.1, this.2.1, ?_⟩
  have h2 := List.length_filter_le vld l
  have := this.2.2
  simp only [List.length_nil] at this
  unfold wb; omega
theorem Qe (l : List api_Fact) (y : api_Fact) : wb (l ++ [y]) = if vld y = true then D0 (wb l) y else wb l := by
  unfold wb
  rw [List.filter_append, List.foldl_append]
  cases h : vld y <;> simp [h]
theorem Gk (l : List api_Fact) (hl : l.length ≤ 2 ^ 20) : oc l = some (wb l) := by
  unfold oc
  refine gr (f := nv l) l (fun s i => (s, i)) (fun s i => s = wb (l.take i)) (fun o => o = some (wb l)) (by omega) ?_ ?_ [] (by simp [wb])
  · rintro rec s i y hi hy rfl
    right
    refine ⟨_, ?_, rfl⟩
    have ho := Ht (l.take i)
    rw [List.length_take] at ho
    unfold nv
    dsimp only
    rw [if_pos (by simp; omega), d6 hy, Option.bind_some, A0, Option.bind_some, gl (by omega), j3 hy, Qe]
    cases hv : vld y with
    | false => rw [if_neg (by simp), if_neg (by simp)]
    | true =>
      rw [if_pos rfl, if_pos rfl]
      have hm : ap (wb (l.take i)) [y] = some (D0 (wb (l.take i)) y) := by
        have := a5c hv (wb (l.take i)) [] FU ho.1 (by simp; omega) (by unfold FU; omega)
        rw [List.nil_append] at this; exact this
      rw [hm, Option.bind_some]
  · rintro rec s rfl
    unfold nv
    dsimp only
    rw [if_neg (by simp), List.take_length]
theorem Ey (l : List api_Fact) (hl : l.length ≤ 2 ^ 20) : sj l [] = some (wb l) := by
  have ho := Ht l
  unfold sj
  rw [Gk l hl, Option.bind_some, Gk [] (by simp), Option.bind_some]
  have hm : ap (wb l) (wb []) = some (wb l) := by
    have e : FU = 1180591620717411303423 + 1 := rfl
    have := Tt 1180591620717411303423 (wb l) [] (by simp; omega)
    rw [← e] at this
    exact this
  rw [hm]; rfl
end Go.PL
namespace Go.PL
open Go Go.SX
theorem ah9 {a b : api_Fact} (ha : vld a = true) (hb : vld b = true) : ∃ c, kh a b = some c ∧ (0 < c ↔ Ak b a) ∧ (c = 0 ↔ a.Issuer = b.Issuer ∧ a.Number = b.Number) := by
  have va := Ay ha
  have vb := Ay hb
  unfold kh
  by_cases h : a.Issuer = b.Issuer
  · rw [if_neg (by simp [h]), au (by omega) (by omega)]
    refine ⟨_, rfl, ?_, ?_⟩
    · unfold Ak; omega
    · omega
  · rw [if_pos (by simpa using h), au (by omega) (by omega)]
    refine ⟨_, rfl, ?_, ?_⟩
    · unfold Ak; omega
    · omega
set_option maxHeartbeats 1000000 in
theorem insR (a0 a1 : List api_Fact) (x : List api_Fact) (x2 : Int) (rec : ((List api_Fact) × Int) → Option (List api_Fact)) (v : api_Fact) (hv : vld v = true) (hx : ∀ u ∈ x, vld u = true) (hs : x.Pairwise Ak) (hl : x.length ≤ 2 ^ 20) :
    am FU (lu rec (a0, a1, x, x2, v)) (x, v, (x.length : Int)) = rec (D0 x v, i64 (x2 + 1)) := by
  refine xx (f := lu rec (a0, a1, x, x2, v)) (fun st => ∃ k : Nat, st = (x, v, (k : Int)) ∧ k ≤ x.length ∧ ∀ u ∈ x.drop k, Ak v u) (fun st => st.2.2.toNat) (fun o => o = rec (D0 x v, i64 (x2 + 1))) ⟨x.length, rfl, Nat.le_refl _, by simp⟩ (by simp only [Int.toNat_natCast]; omega) ?_
  rintro st rec2 ⟨k, rfl, hk, hd⟩
  unfold lu
  dsimp only
  have put : (∀ u ∈ x.take k, Ak u v) → (Option.bind (fp x 0 (k : Int)) fun s => Option.bind (m8 112 [] s) fun l => Option.bind (m8 112 l [v]) fun l2 => Option.bind (fp x (k : Int) (x.length : Int)) fun s2 => Option.bind (m8 112 l2 s2) fun l3 => rec (l3, i64 (x2 + 1))) = rec (D0 x v, i64 (x2 + 1)) := by
    intro hlo
    have ed : (x.drop k).take (x.length - k) = x.drop k := List.take_of_length_le (by simp)
    have ei : D0 x v = x.take k ++ v :: x.drop k := by
      have := Hf (p := x.take k) (q := x.drop k) hlo
      rw [List.take_append_drop, aao hd] at this
      exact this
    rw [rn (by omega) (by omega) (by omega), Option.bind_some, de (by simp; omega), Option.bind_some, de (by simp; omega), Option.bind_some, rn (by omega) (by omega) (by omega), Option.bind_some, de (by simp; omega), Option.bind_some, ei]
    simp only [Int.toNat_natCast, List.nil_append, Int.toNat_zero, Nat.sub_zero, List.drop_zero]
    rw [ed]
    simp
  cases k with
  | zero =>
    left
    rw [if_neg (by simp), Option.bind_some, if_neg (by simp), if_neg (by simp), Option.bind_some, if_neg (by simp)]
    exact put (by simp)
  | succ k =>
    obtain ⟨y, e⟩ : ∃ y, x[k]? = some y := ⟨_, List.getElem?_eq_getElem (by omega)⟩
    have ei : i64 (((k + 1 : Nat) : Int) - 1) = (k : Int) := by rw [au (by omega) (by omega)]; omega
    have hyv := hx y (List.mem_of_getElem? e)
    obtain ⟨c, hc, c1, c2⟩ := ah9 hyv hv
    have hlow : ∀ u ∈ x.take k, Ak u y := by
      have := hs.sublist (List.take_sublist (k + 1) x)
      rw [j3 e, List.pairwise_append] at this
      exact fun u hu => this.2.2 u hu y (List.mem_singleton.2 rfl)
    rw [if_pos (by simp), if_pos (by simp), ei, d6 e]
    simp only [Option.bind_some]
    rw [hc]
    simp only [Option.bind_some]
    by_cases h1 : 0 < c
    · right
      rw [if_pos (by simpa using h1)]
      refine ⟨_, rfl, ⟨k, rfl, by omega, fun u hu => ?_⟩, by simp only [Int.toNat_natCast]; omega⟩
      rw [zo e] at hu
      rcases List.mem_cons.1 hu with h | h
      · rw [h]; exact c1.1 h1
      · exact hd u h
    · left
      rw [if_neg (by simpa using h1)]
      by_cases h2 : c = 0
      · rw [if_pos (by simpa using h2)]
        obtain ⟨i1, i2⟩ := c2.1 h2
        rw [a6p hyv hv i1 i2, Option.bind_some]
        have hlo : ∀ u ∈ x.take k, Ak u v := fun u hu => by have := hlow u hu; unfold Ak at *; omega
        have ex : x = x.take k ++ y :: x.drop (k + 1) := by
          have := (List.take_append_drop k x).symm
          rwa [zo e] at this
        have ei : D0 x v = x.take k ++ (if Jj y v = true then v else y) :: x.drop (k + 1) := by
          have := Hf (p := x.take k) (q := y :: x.drop (k + 1)) hlo
          rw [← ex, ab7 i1 i2] at this
          exact this
        cases hb : Jj y v with
        | true =>
          rw [if_pos rfl, ei, hb, if_pos rfl]
          congr 2
          unfold uc
          rw [if_pos (Int.natCast_nonneg _), Int.toNat_natCast]
          have hk' : (x.take k).length = k := by rw [List.length_take]; omega
          rw [List.set_eq_take_append_cons_drop, if_pos (by omega)]
        | false =>
          rw [if_neg (by simp), ei, hb, if_neg (by simp), ← ex]
      · rw [if_neg (by simpa using h2)]
        refine put fun u hu => ?_
        have hyl : Ak y v := by
          have n1 : ¬ Ak v y := fun h => h1 (c1.2 h)
          have n2 : ¬ (y.Issuer = v.Issuer ∧ y.Number = v.Number) := fun h => h2 (c2.2 h)
          unfold Ak at *; omega
        rw [j3 e] at hu
        rcases List.mem_append.1 hu with h | h
        · exact Lh (hlow u h) hyl
        · rw [List.mem_singleton] at h; rw [h]; exact hyl
theorem Tf (l : List api_Fact) (hl : l.length ≤ 2 ^ 20) : m4 l [] = some (wb l) := by
  unfold m4
  refine gr (f := lm l []) l (fun s i => (s, i)) (fun s i => s = wb (l.take i)) (fun o => o = some (wb l)) (by omega) ?_ ?_ [] (by simp [wb])
  · rintro rec s i y hi hy rfl
    right
    refine ⟨_, ?_, rfl⟩
    have ho := Ht (l.take i)
    rw [List.length_take] at ho
    unfold lm
    dsimp only
    rw [List.length_nil, au (by omega) (by omega), if_pos (by simp; omega), if_pos (by simp; omega), d6 hy, Option.bind_some, oy]
    unfold pr
    dsimp only
    rw [yk, Option.bind_some, j3 hy, Qe]
    cases hv : vld y with
    | false => rw [if_pos (by rfl), if_neg (by simp), gl (by omega)]
    | true => rw [if_neg (by simp), if_pos rfl, insR _ _ _ _ _ _ hv ho.1 ho.2.1 (by omega), gl (by omega)]
  · rintro rec s rfl
    unfold lm
    dsimp only
    rw [List.length_nil, au (by omega) (by omega), if_neg (by simp), List.take_length]
end Go.PL
namespace Go.PL
open Go Go.SX
theorem Cs : ∀ (q acc : List api_Fact), q.Pairwise Ak → (∀ u ∈ acc, ∀ v ∈ q, Ak u v) → q.foldl D0 acc = acc ++ q
  | [], acc, _, _ => by simp
  | f :: q, acc, hq, ha => by
    obtain ⟨h1, h2⟩ := List.pairwise_cons.1 hq
    have e : D0 acc f = acc ++ [f] := by
      have := Hf (f := f) (q := []) (p := acc) fun u hu => ha u hu f List.mem_cons_self
      rwa [List.append_nil] at this
    rw [List.foldl_cons, e, Cs q _ h2 fun u hu v hv => ?_, List.append_assoc]
    · rfl
    · rcases List.mem_append.1 hu with hu | hu
      · exact ha u hu v (List.mem_cons_of_mem _ hv)
      · rw [List.mem_singleton] at hu; subst hu; exact h1 v hv
theorem Px (l : List api_Fact) : wb (wb l) = wb l := by
  obtain ⟨h1, h2, _⟩ := Ht l
  have e : (wb l).filter vld = wb l := List.filter_eq_self.2 h1
  show ((wb l).filter vld).foldl D0 [] = _
  rw [e, Cs _ _ h2 fun u hu => by cases hu]
  rfl
def fs (l : List api_Fact) : List api_Fact := (wb l).filter cur
section
variable {l : List api_Fact} (hl : l.length ≤ 2 ^ 20)
include hl
theorem Bv : (wb l).length ≤ 2 ^ 20 := Nat.le_trans (Ht l).2.2 hl
theorem a2d : (fs l).length ≤ 2 ^ 20 := Nat.le_trans (List.length_filter_le _ _) (Bv hl)
theorem T8 : lr l = some (fs l) := by
  unfold lr
  rw [Tf l hl, Option.bind_some, Db _ (by have := Bv hl; omega), Option.bind_some]; rfl
theorem Fw : jl l = some (fs l) := by
  unfold jl
  rw [Tf l hl, Option.bind_some, Db _ (by have := Bv hl; omega), Option.bind_some]; rfl
theorem a2c : yt (wb l) = some (fs l) := by
  unfold yt
  rw [Ey _ (Bv hl), Option.bind_some, Px, Cy _ (by have := Bv hl; omega), Option.bind_some]; rfl
theorem Rz (p d : Int) : sn l p d = some (ii (ofP l p) d) := by
  unfold sn
  rw [Ly l p (by omega), Option.bind_some, Dx _ (by have := yb l p; omega), Option.bind_some, dl, Option.bind_some]
  rfl
end
def raB (c d : Int) (f : api_Fact) : Bool := (((f.Kind == 10) && (f.Ref == c)) && decide (f.Span.From ≤ d)) && decide (d < f.Span.To)
theorem Yt (l : List api_Fact) (c d : Int) (hl : l.length ≤ 2 ^ 30) : xr l c d = some (l.any (raB c d)) := by
  obtain ⟨n, h1, h2⟩ := uo (f := c4 l c d) l (raB c d) hl (fun rec i y hy => by
    have hi := (List.getElem?_eq_some_iff.1 hy).1
    unfold c4 yi
    rw [if_pos (ox hi)]
    simp only [d6 hy, Option.bind_some, bw]
    rfl) fun rec => by
    unfold c4
    rw [if_neg (jt _)]
  unfold xr cv d9
  rw [h1, Option.bind_some, Option.bind_some, h2]
theorem Ez (l : List api_Fact) (p c d : Int) (hl : l.length ≤ 2 ^ 30) : i7 l p c d = some ((ofP l p).any (raB c d)) := by
  unfold i7
  rw [Nw (f := kt l p c d) l (fun f => (f.Person == p) && raB c d f) hl (fun rec i y hy => ?_) fun rec => ?_]
  · unfold ofP; rw [List.any_filter]
  · have hi := (List.getElem?_eq_some_iff.1 hy).1
    unfold kt
    rw [if_pos (ox hi)]
    simp only [d6 hy, Option.bind_some, bw]
    unfold raB
    simp only [Bool.and_assoc]
  · unfold kt
    rw [if_neg (jt _)]
def diB (d : Int) (f : api_Fact) : Bool := ((f.Kind == 13) && decide (f.Span.From ≤ d)) && decide (d < f.Span.To)
theorem a3q (l : List api_Fact) (p : Int) : (ofP l p).filter cur = ofP (l.filter cur) p := by
  unfold ofP
  rw [List.filter_filter, List.filter_filter]
  congr 1
  funext f
  exact Bool.and_comm _ _
theorem Qy (g : decision_file) (d : Int) (hl : g.own.length ≤ 2 ^ 30) : kq g d = some ((g.own.filter cur).any (diB d)) := by
  unfold kq
  rw [Cy _ hl, Option.bind_some]
  have hq := Nat.le_trans (List.length_filter_le cur g.own) hl
  generalize g.own.filter cur = q at hq
  obtain ⟨n, h1, h2⟩ := uo (f := bg q d) q (diB d) hq (fun rec i y hy => by
    have hi := (List.getElem?_eq_some_iff.1 hy).1
    unfold bg nb
    rw [if_pos (ox hi)]
    simp only [d6 hy, Option.bind_some, bw]
    rfl) fun rec => by
    unfold bg
    rw [if_neg (jt _)]
  unfold c8 cf
  rw [h1, Option.bind_some, Option.bind_some, h2]
theorem Q9 (l : List api_Fact) (p d : Int) (hl : l.length ≤ 2 ^ 30) : lx l p d = some ((ofP l p).any (diB d)) := by
  unfold lx
  rw [Nw (f := j9 l p d) l (fun f => (f.Person == p) && diB d f) hl (fun rec i y hy => ?_) fun rec => ?_]
  · unfold ofP; rw [List.any_filter]
  · have hi := (List.getElem?_eq_some_iff.1 hy).1
    unfold j9
    rw [if_pos (ox hi)]
    simp only [d6 hy, Option.bind_some, bw]
    unfold diB
    simp only [Bool.and_assoc]
  · unfold j9
    rw [if_neg (jt _)]
def yo : List Int := (List.range 99).map fun i : Nat => (i : Int) + 1
theorem yw : yo.length = 99 := by simp [yo]
theorem act {i : Nat} {y : Int} (h : yo[i]? = some y) : y = (i : Int) + 1 ∧ i < 99 := by
  have hi := (List.getElem?_eq_some_iff.1 h).1
  rw [yw] at hi
  unfold yo at h
  rw [List.getElem?_map, List.getElem?_range hi] at h
  exact ⟨(Option.some.inj h).symm, hi⟩
theorem a6k {i : Nat} (h : i < 99) : i64 ((i : Int) + 1 + 1) = ((i + 1 : Nat) : Int) + 1 := by rw [au (by omega) (by omega)]; omega
theorem H1 {σ ρ τ : Type} {f : (σ → Option ρ) → σ → Option ρ} (e : τ → Int → σ) (I : τ → Nat → Prop) (Q : Option ρ → Prop)
    (hstep : ∀ (rec : σ → Option ρ) (s : τ) (i : Nat), i < 99 → I s i → Q (f rec (e s ((i : Int) + 1))) ∨ ∃ s', f rec (e s ((i : Int) + 1)) = rec (e s' (i64 ((i : Int) + 1 + 1))) ∧ I s' (i + 1))
    (hfin : ∀ (rec : σ → Option ρ) (s : τ), I s 99 → Q (f rec (e s 100))) (s : τ) (h0 : I s 0) : Q (am FU f (e s 1)) := by
  have h1 := gr (f := f) yo (fun s i => e s (i + 1)) I Q (by rw [yw]; omega) (fun rec s i y hi hy hI => by
    have hi' := (act hy).2
    rcases hstep rec s i hi' hI with h | ⟨s', h, h'⟩
    · exact .inl h
    · exact .inr ⟨s', by rw [h, a6k hi'], h'⟩) (fun rec s hI => by
    rw [yw] at hI ⊢
    exact hfin rec s hI) s h0
  exact h1
theorem Zg {f : (List Int × Int → Option (List Int)) → List Int × Int → Option (List Int)} (p : Int → Bool)
    (hstep : ∀ (rec : List Int × Int → Option (List Int)) (s : List Int) (y : Int), 1 ≤ y → y ≤ 99 → f rec (s, y) = if p y = true then Option.bind (m8 8 s [y]) (fun a => rec (a, i64 (y + 1))) else rec (s, i64 (y + 1)))
    (hfin : ∀ (rec : List Int × Int → Option (List Int)) (s : List Int), f rec (s, 100) = some s) : am FU f ([], 1) = some (yo.filter p) := by
  refine H1 (f := f) (fun s i => (s, i)) (fun s i => s = (yo.take i).filter p) (fun o => o = some (yo.filter p)) ?_ ?_ [] (by simp)
  · rintro rec s i hi rfl
    right
    have hy : yo[i]? = some ((i : Int) + 1) := by unfold yo; rw [List.getElem?_map, List.getElem?_range hi]; rfl
    have hlen : ((yo.take i).filter p).length ≤ 99 := by
      have := List.length_filter_le p (yo.take i); rw [List.length_take] at this; omega
    rw [hstep _ _ _ (by omega) (by omega), j3 hy, List.filter_append]
    by_cases hc : p ((i : Int) + 1) = true
    · rw [if_pos hc, de (by simp; omega), Option.bind_some]
      exact ⟨_, rfl, by simp [hc]⟩
    · rw [if_neg hc]
      rw [Bool.not_eq_true] at hc
      exact ⟨_, rfl, by simp [hc]⟩
  · rintro rec s rfl
    rw [hfin, show yo.take 99 = yo from List.take_of_length_le (by rw [yw]; omega)]
def a01 (F : List api_Fact) (c d y : Int) : Bool := ((y != c) && (ofP F y).any (raB c d)) && ii (ofP F y) d
def ad3 (F : List api_Fact) (c d : Int) : Bool := !((((decide (c < 1) || decide (c > 99)) || decide (d < 0)) || decide (d > 73048)) || !ii (ofP F c) d)
def a5g (F : List api_Fact) (c d : Int) : List Int := if ad3 F c d = true then yo.filter (a01 F c d) else []
theorem V9 {l : List api_Fact} (hl : l.length ≤ 2 ^ 20) (c d : Int) : vu (wb l) c d = some (a5g (fs l) c d) := by
  have hF := a2d hl
  unfold vu
  rw [a2c hl, Option.bind_some]
  generalize fs l = F at hF
  unfold zw a5g ad3
  simp only [dl, Rz hF, Option.bind_some]
  cases hc : ((((decide (c < 1) || decide (c > 99)) || decide (d < 0)) || decide (d > 73048)) || !ii (ofP F c) d)
  · rw [if_neg (by simp), Bool.not_false, if_pos rfl, Zg (a01 F c d) (fun rec s y h1 h2 => ?_) fun rec s => ?_, Option.bind_some]
    · have hq := yb F y
      unfold uv
      dsimp only
      rw [if_pos (by simp; omega)]
      by_cases hy : (y != c) = true
      · rw [if_pos hy, Ly F y (by omega), Option.bind_some, Yt _ c d (by omega), Option.bind_some]
        simp only [Rz hF, Option.bind_some, bw]
        unfold a01
        rw [hy, Bool.true_and]
      · rw [if_neg hy]
        rw [Bool.not_eq_true] at hy
        unfold a01
        rw [hy]
        simp
    · unfold uv
      dsimp only
      rw [if_neg (by simp)]
  · rw [if_pos rfl, Bool.not_true, if_neg (by simp), Option.bind_some]
theorem Uv {l : List api_Fact} (hl : l.length ≤ 2 ^ 20) (c d : Int) : mq l c d = some (a5g (fs l) c d) := by
  have hF := a2d hl
  unfold mq
  rw [T8 hl, Option.bind_some]
  generalize fs l = F at hF
  unfold a5g ad3 bz
  simp only [dl, bw, A4 F _ _ (by omega : F.length ≤ 2 ^ 30), Option.bind_some]
  have ec : (((decide (c < 1) || decide (c > 99)) || !(decide (d ≥ 0) && decide (d ≤ 73048))) || !ii (ofP F c) d) = ((((decide (c < 1) || decide (c > 99)) || decide (d < 0)) || decide (d > 73048)) || !ii (ofP F c) d) := by
    have : (!(decide (d ≥ 0) && decide (d ≤ 73048))) = (decide (d < 0) || decide (d > 73048)) := by
      rw [Bool.eq_iff_iff]; simp
    rw [this, ← Bool.or_assoc]
  rw [ec]
  cases hc : ((((decide (c < 1) || decide (c > 99)) || decide (d < 0)) || decide (d > 73048)) || !ii (ofP F c) d)
  · rw [if_neg (by simp), Bool.not_false, if_pos rfl]
    refine H1 (f := jv c d) (fun (s : List Int) i => (F, s, i)) (fun s i => s = (yo.take i).filter (a01 F c d)) (fun o => o = some (yo.filter (a01 F c d))) ?_ ?_ [] (by simp)
    · rintro rec s i hi rfl
      right
      have hy : yo[i]? = some ((i : Int) + 1) := by unfold yo; rw [List.getElem?_map, List.getElem?_range hi]; rfl
      have hlen : ((yo.take i).filter (a01 F c d)).length ≤ 99 := by
        have := List.length_filter_le (a01 F c d) (yo.take i); rw [List.length_take] at this; omega
      unfold jv
      dsimp only
      rw [if_pos (by simp; omega)]
      simp only [A4 F _ _ (by omega : F.length ≤ 2 ^ 30), Ez F _ _ _ (by omega : F.length ≤ 2 ^ 30), Option.bind_some, bw]
      have ep : ((((i : Int) + 1 != c) && ii (ofP F ((i : Int) + 1)) d) && (ofP F ((i : Int) + 1)).any (raB c d)) = a01 F c d ((i : Int) + 1) := by
        unfold a01
        rw [Bool.and_assoc, Bool.and_assoc, Bool.and_comm (ii _ _)]
      rw [ep, j3 hy, List.filter_append]
      by_cases hc : a01 F c d ((i : Int) + 1) = true
      · rw [if_pos hc, de (by simp; omega), Option.bind_some]
        exact ⟨_, rfl, by simp [hc]⟩
      · rw [if_neg hc]
        rw [Bool.not_eq_true] at hc
        exact ⟨_, rfl, by simp [hc]⟩
    · rintro rec s rfl
      unfold jv
      dsimp only
      rw [if_neg (by simp), show yo.take 99 = yo from List.take_of_length_le (by rw [yw]; omega)]
  · rw [if_pos rfl, Bool.not_true, if_neg (by simp)]
theorem a07 (F : List api_Fact) (c d : Int) : (a5g F c d).length ≤ 99 := by
  unfold a5g
  split
  · have := List.length_filter_le (a01 F c d) yo; rw [yw] at this; exact this
  · simp
theorem Td (l : List Int) (x : Int) (hl : l.length ≤ 2 ^ 30) : l0 l x = some (l.any fun y => x == y) := by
  obtain ⟨n, h1, h2⟩ := uo (f := kx l x) l (fun y => x == y) hl (fun rec i y hy => by
    have hi := (List.getElem?_eq_some_iff.1 hy).1
    unfold kx
    rw [if_pos (ox hi)]
    simp only [d6 hy, Option.bind_some]) fun rec => by
    unfold kx
    rw [if_neg (jt _)]
  unfold l0 s9
  rw [h1, Option.bind_some, h2]
theorem aej (l : List Int) (x : Int) (hl : l.length ≤ 2 ^ 30) : s4 l x = some (l.any fun y => x == y) := by
  unfold s4
  rw [Nw (f := nl l x) l (fun y => x == y) hl (fun rec i y hy => ?_) fun rec => ?_]
  · have hi := (List.getElem?_eq_some_iff.1 hy).1
    unfold nl
    rw [if_pos (ox hi)]
    simp only [d6 hy, Option.bind_some]
    rw [BEq.comm]
  · unfold nl
    rw [if_neg (jt _)]
end Go.PL
namespace Go.PL
open Go Go.Sort
def InS (l : List Span) (x : Int) : Prop := ∃ s ∈ l, s.From ≤ x ∧ x < s.To
theorem Br {x : Int} : ¬ InS [] x := by rintro ⟨s, h, _⟩; cases h
theorem sf {a b : List Span} {x : Int} : InS (a ++ b) x ↔ InS a x ∨ InS b x := by
  constructor
  · rintro ⟨s, h, h1⟩
    rcases List.mem_append.1 h with h | h
    · exact .inl ⟨s, h, h1⟩
    · exact .inr ⟨s, h, h1⟩
  · rintro (⟨s, h, h1⟩ | ⟨s, h, h1⟩)
    · exact ⟨s, List.mem_append_left _ h, h1⟩
    · exact ⟨s, List.mem_append_right _ h, h1⟩
theorem vj {s : Span} {x : Int} : InS [s] x ↔ s.From ≤ x ∧ x < s.To := by
  constructor
  · rintro ⟨t, h, h1⟩; rw [List.mem_singleton] at h; subst h; exact h1
  · intro h; exact ⟨s, List.mem_singleton.2 rfl, h⟩
theorem kp {s : Span} {b : List Span} {x : Int} : InS (s :: b) x ↔ (s.From ≤ x ∧ x < s.To) ∨ InS b x := by
  have := @sf [s] b x
  rw [vj] at this; exact this
theorem a6c {a b : List Span} (h : a.Perm b) {x : Int} : InS a x ↔ InS b x := by
  constructor
  · rintro ⟨s, hs, h1⟩; exact ⟨s, h.mem_iff.1 hs, h1⟩
  · rintro ⟨s, hs, h1⟩; exact ⟨s, h.mem_iff.2 hs, h1⟩
def Nrm (l : List Span) : Prop := (∀ s ∈ l, 0 ≤ s.From ∧ s.From < s.To ∧ s.To ≤ 73049) ∧ l.Pairwise (fun a b => a.To < b.From)
theorem L0 : Nrm [] := ⟨fun _ h => (by cases h), List.Pairwise.nil⟩
theorem tv {a : List Span} {s : Span} : Nrm (a ++ [s]) ↔ Nrm a ∧ (∀ t ∈ a, t.To < s.From) ∧ 0 ≤ s.From ∧ s.From < s.To ∧ s.To ≤ 73049 := by
  unfold Nrm
  rw [List.pairwise_append]
  constructor
  · rintro ⟨h1, h2, h3, h4⟩
    exact ⟨⟨fun t ht => h1 t (List.mem_append_left _ ht), h2⟩, fun t ht => h4 t ht s (List.mem_singleton.2 rfl), h1 s (List.mem_append_right _ (List.mem_singleton.2 rfl))⟩
  · rintro ⟨⟨h1, h2⟩, h3, h4⟩
    refine ⟨fun t ht => ?_, h2, List.pairwise_singleton _ _, fun t ht u hu => ?_⟩
    · rcases List.mem_append.1 ht with h | h
      · exact h1 t h
      · rw [List.mem_singleton] at h; subst h; exact h4
    · rw [List.mem_singleton] at hu; subst hu; exact h3 t ht
theorem zc {a : List Span} {s : Span} : Nrm (s :: a) ↔ Nrm a ∧ (∀ t ∈ a, s.To < t.From) ∧ 0 ≤ s.From ∧ s.From < s.To ∧ s.To ≤ 73049 := by
  unfold Nrm
  rw [List.pairwise_cons]
  constructor
  · rintro ⟨h1, h2, h3⟩
    exact ⟨⟨fun t ht => h1 t (List.mem_cons_of_mem _ ht), h3⟩, h2, h1 s (List.mem_cons_self ..)⟩
  · rintro ⟨⟨h1, h2⟩, h3, h4⟩
    refine ⟨fun t ht => ?_, h3, h2⟩
    rcases List.mem_cons.1 ht with h | h
    · subst h; exact h4
    · exact h1 t h
theorem Nv : ∀ {a b : List Span}, Nrm a → Nrm b → (∀ x, InS a x ↔ InS b x) → a = b
  | [], [], _, _, _ => rfl
  | [], s :: b, _, hb, h => by
    have := (zc.1 hb).2.2
    exact absurd ((h s.From).2 (kp.2 (.inl ⟨Int.le_refl _, this.2.1⟩))) Br
  | s :: a, [], ha, _, h => by
    have := (zc.1 ha).2.2
    exact absurd ((h s.From).1 (kp.2 (.inl ⟨Int.le_refl _, this.2.1⟩))) Br
  | s :: a, t :: b, ha, hb, h => by
    obtain ⟨ha1, ha2, ha3⟩ := zc.1 ha
    obtain ⟨hb1, hb2, hb3⟩ := zc.1 hb
    have low : ∀ {c : List Span} {u : Span}, (∀ t ∈ c, u.To < t.From) → ∀ {x}, InS c x → u.To < x := by
      rintro c u hc x ⟨v, hv, h1⟩; have := hc v hv; omega
    have f1 : t.From ≤ s.From := by
      rcases kp.1 ((h s.From).1 (kp.2 (.inl ⟨Int.le_refl _, ha3.2.1⟩))) with h1 | h1
      · exact h1.1
      · have := low hb2 h1; omega
    have f2 : s.From ≤ t.From := by
      rcases kp.1 ((h t.From).2 (kp.2 (.inl ⟨Int.le_refl _, hb3.2.1⟩))) with h1 | h1
      · exact h1.1
      · have := low ha2 h1; omega
    have t1 : ¬ s.To < t.To := by
      intro h1
      rcases kp.1 ((h s.To).2 (kp.2 (.inl ⟨by omega, h1⟩))) with h2 | h2
      · omega
      · have := low ha2 h2; omega
    have t2 : ¬ t.To < s.To := by
      intro h1
      rcases kp.1 ((h t.To).1 (kp.2 (.inl ⟨by omega, h1⟩))) with h2 | h2
      · omega
      · have := low hb2 h2; omega
    have hst : s = t := by cases s; cases t; simp only [Mk.Span.mk.injEq] at *; omega
    subst hst
    congr 1
    refine Nv ha1 hb1 fun x => ?_
    constructor
    · intro hx
      have := low ha2 hx
      rcases kp.1 ((h x).1 (kp.2 (.inr hx))) with h2 | h2
      · omega
      · exact h2
    · intro hx
      have := low hb2 hx
      rcases kp.1 ((h x).2 (kp.2 (.inr hx))) with h2 | h2
      · omega
      · exact h2
theorem Uo {l : List Span} (h : Nrm l) : l.length ≤ 73049 := by
  have key : ∀ (l : List Span), Nrm l → ∀ s ∈ l.getLast?, (l.length : Int) ≤ s.To := by
    intro l
    have : ∀ (r : List Span), Nrm r.reverse → ∀ s ∈ r.head?, (r.length : Int) ≤ s.To := by
      intro r
      induction r with
      | nil => intro _ s hs; cases hs
      | cons u r ih =>
        intro hn s hs
        cases hs
        rw [List.reverse_cons] at hn
        obtain ⟨h1, h2, h3⟩ := tv.1 hn
        cases r with
        | nil => simp only [List.length_cons, List.length_nil]; omega
        | cons v r =>
          have a := ih h1 v rfl
          have b := h2 v (by simp)
          simp only [List.length_cons] at a ⊢; omega
    intro hn s hs
    have := this l.reverse (by rw [List.reverse_reverse]; exact hn) s (by rw [List.head?_reverse]; exact hs)
    rwa [List.length_reverse] at this
  rcases aib l with rfl | ⟨a, t, rfl⟩
  · exact Nat.zero_le _
  · have a := key _ h t (by simp)
    have b := (tv.1 h).2.2
    omega
theorem adx : SWO (fun x y : Span => decide (x.From < y.From)) := by
  constructor
  · intro x; simp
  · intro x y z; simp only [decide_eq_true_eq]; omega
  · intro x y z; simp only [decide_eq_false_iff_not]; omega
theorem a1l (l : List Span) (h : l.length < 4611686018427387904) : ∃ r, Mk.sort_Slice_120 l = some r ∧ r.Perm l ∧ r.Pairwise (fun a b => a.From ≤ b.From) := by
  unfold Mk.sort_Slice_120 a2i
  by_cases h1 : l.length ≤ 1
  · rw [if_pos h1]
    refine ⟨l, rfl, .refl _, ?_⟩
    match l, h1 with
    | [], _ => exact .nil
    | [x], _ => exact List.pairwise_singleton _ _
  · rw [if_neg h1, if_pos h]
    have hp := pdq_sorts (fun x y : Span => decide (x.From < y.From)) adx l.toArray 0 l.toArray.size (Lib.bitLen l.toArray.size) true true (Nat.zero_le _) (Nat.le_refl _) (Or.inl rfl)
    rw [List.size_toArray] at hp
    generalize pdq (fun x y : Span => decide (x.From < y.From)) l.toArray 0 l.length (Lib.bitLen l.length) true true = d at hp ⊢
    obtain ⟨⟨p1, p2, p3⟩, p4⟩ := hp
    have p1' : d.size = l.length := by simpa using p1
    have e1 : d.extract 0 l.length = d := by rw [← p1']; simp
    have e2 : l.toArray.extract 0 l.length = l.toArray := by simp
    rw [e1, e2] at p3
    refine ⟨d.toList, rfl, by simpa using p3, ?_⟩
    rw [List.pairwise_iff_getElem]
    intro i j hi hj hij
    have := p4 i j (Nat.zero_le _) hij (by simpa [p1'] using hj)
    have hi' : i < d.size := by simpa using hi
    have hj' : j < d.size := by simpa using hj
    simp only [decide_eq_false_iff_not] at this
    rw [getElem!_pos d j hj', getElem!_pos d i hi'] at this
    simp only [Array.getElem_toList]; omega
set_option maxHeartbeats 1000000 in
theorem Zs (l : List Span) (hl : l.length ≤ 2 ^ 40) (hs : l.Pairwise (fun a b => a.From ≤ b.From)) (hr : ∀ s ∈ l, 0 ≤ s.From ∧ s.From < s.To ∧ s.To ≤ 73049) (Q : Option (List Span) → Prop)
    (hQ : ∀ r, Nrm r → (∀ x, InS r x ↔ InS l x) → r.length ≤ l.length → Q (some r)) : Q (am FU (Mk.spans_Make_l2 l) ([], 0)) := by
  refine gr (f := Mk.spans_Make_l2 l) l (fun s i => (s, i)) (fun s i => Nrm s ∧ (∀ x, InS s x ↔ InS (l.take i) x) ∧ s.length ≤ i ∧ ∀ t ∈ s, ∃ u ∈ l.take i, u.From = t.From) Q (by omega) ?_ ?_ [] ⟨L0, fun x => by simp, Nat.le_refl _, fun t h => by cases h⟩
  · rintro rec s i y hi hy ⟨h1, h2, h3, h4⟩
    right
    have hyl : y ∈ l := List.mem_of_getElem? hy
    have hyr := hr y hyl
    unfold Mk.spans_Make_l2 Mk.spans_Make_j2
    dsimp only
    rw [if_pos (by simp; omega), d6 hy, Option.bind_some, gl (by omega), j3 hy]
    have hord : ∀ u ∈ l.take i, u.From ≤ y.From := by
      intro u hu
      have hi' := List.getElem?_eq_getElem hi
      rw [hy] at hi'
      have e : l = l.take i ++ l.drop i := (List.take_append_drop i l).symm
      rw [e, List.pairwise_append] at hs
      refine hs.2.2 u hu y ?_
      rw [Option.some.inj hi', List.drop_eq_getElem_cons hi]; exact List.mem_cons_self ..
    rcases aib s with rfl | ⟨a, t, rfl⟩
    · simp only [List.length_nil, Int.natCast_zero, Int.lt_irrefl, decide_false, Bool.false_eq_true, if_false, Option.bind_some]
      rw [de (by simp), Option.bind_some]
      refine ⟨[y], rfl, ?_, fun x => ?_, by simp, ?_⟩
      · have := tv (a := []) (s := y); simp only [List.nil_append] at this; rw [this]; exact ⟨L0, fun t h => (by cases h), hyr⟩
      · have := h2 x
        rw [sf, ← this]; simp [Br]
      · intro t ht; rw [List.mem_singleton] at ht; subst ht; exact ⟨t, by simp, rfl⟩
    · obtain ⟨n1, n2, n3⟩ := tv.1 h1
      have hlen : a.length < 2 ^ 62 := by rw [List.length_append] at h3; simp at h3; omega
      have htf : t.From ≤ y.From := by
        obtain ⟨u, hu, he⟩ := h4 t (by simp)
        have := hord u hu; omega
      rw [if_pos (by rw [List.length_append]; simp), V7 a t hlen, Option.bind_some, Option.bind_some]
      by_cases hc : y.From ≤ t.To
      · rw [if_pos (by simpa using hc), Option.bind_some, Option.bind_some, Wx a t _ hlen]
        refine ⟨a ++ [(⟨t.From, max t.To y.To⟩ : Span)], rfl, ?_, fun x => ?_, by simp at h3 ⊢; omega, ?_⟩
        · rw [tv]; exact ⟨n1, n2, by dsimp only; omega, by dsimp only; omega, by dsimp only; omega⟩
        · have := h2 x
          rw [sf, vj] at this
          rw [sf, sf, ← this, vj, vj]
          dsimp only
          by_cases hax : InS a x
          · simp [hax]
          · simp only [hax, false_or]; omega
        · intro v hv
          rcases List.mem_append.1 hv with hv | hv
          · obtain ⟨u, hu, he⟩ := h4 v (List.mem_append_left _ hv); exact ⟨u, List.mem_append_left _ hu, he⟩
          · rw [List.mem_singleton] at hv; subst hv
            obtain ⟨u, hu, he⟩ := h4 t (by simp); exact ⟨u, List.mem_append_left _ hu, he⟩
      · rw [if_neg (by simpa using hc), de (by simp at h3 ⊢; omega), Option.bind_some]
        refine ⟨a ++ [t] ++ [y], rfl, ?_, fun x => ?_, by simp at h3 ⊢; omega, ?_⟩
        · rw [tv]
          refine ⟨h1, fun v hv => ?_, hyr⟩
          rcases List.mem_append.1 hv with hv | hv
          · have := n2 v hv; omega
          · rw [List.mem_singleton] at hv; subst hv; omega
        · have := h2 x
          rw [sf (a := a ++ [t]), sf (a := l.take i), this]
        · intro v hv
          rcases List.mem_append.1 hv with hv | hv
          · obtain ⟨u, hu, he⟩ := h4 v hv; exact ⟨u, List.mem_append_left _ hu, he⟩
          · rw [List.mem_singleton] at hv; subst hv
            exact ⟨v, by simp, rfl⟩
  · rintro rec s ⟨h1, h2, h3, _⟩
    rw [List.take_length] at h2
    unfold Mk.spans_Make_l2
    dsimp only
    rw [if_neg (by simp)]
    exact hQ s h1 h2 h3
set_option maxHeartbeats 1000000 in
theorem Ee (d : List Span) (hd : d.length ≤ 2 ^ 40) : ∃ r, spans_Make d = some r ∧ Nrm r ∧ (∀ x, InS r x ↔ InS d x ∧ 0 ≤ x ∧ x < 73049) ∧ r.length ≤ d.length := by
  show ∃ r, Mk.spans_Make d = some r ∧ _
  unfold Mk.spans_Make
  refine gr (f := Mk.spans_Make_l d) d (fun s i => (i, s)) (fun s i => (∀ u ∈ s, 0 ≤ u.From ∧ u.From < u.To ∧ u.To ≤ 73049) ∧ (∀ x, InS s x ↔ InS (d.take i) x ∧ 0 ≤ x ∧ x < 73049) ∧ s.length ≤ i)
    (fun o => ∃ r, o = some r ∧ Nrm r ∧ (∀ x, InS r x ↔ InS d x ∧ 0 ≤ x ∧ x < 73049) ∧ r.length ≤ d.length) (by omega) ?_ ?_ [] ⟨fun u h => (by cases h), fun x => by simp [Br], Nat.le_refl _⟩
  · rintro rec s i y hi hy ⟨h1, h2, h3⟩
    right
    unfold Mk.spans_Make_l Mk.spans_Make_j Mk.spans_clamp
    dsimp only
    rw [if_pos (by simp; omega), d6 hy, Option.bind_some, gl (by omega), Option.bind_some, j3 hy]
    dsimp only
    by_cases hc : max y.From 0 < min y.To 73049
    · rw [if_pos (by simpa using hc), de (by simp; omega), Option.bind_some]
      refine ⟨s ++ [(⟨max y.From 0, min y.To 73049⟩ : Span)], rfl, fun u hu => ?_, fun x => ?_, by simp; omega⟩
      · rcases List.mem_append.1 hu with hu | hu
        · exact h1 u hu
        · rw [List.mem_singleton] at hu; subst hu; dsimp only; omega
      · rw [sf, sf, h2 x, vj, vj]
        dsimp only
        by_cases hax : InS (d.take i) x
        · simp only [hax, true_and, true_or]; omega
        · simp only [hax, false_and, false_or]; omega
    · rw [if_neg (by simpa using hc)]
      refine ⟨s, rfl, h1, fun x => ?_, by omega⟩
      rw [sf, h2 x, vj]
      by_cases hax : InS (d.take i) x
      · simp only [hax, true_and, true_or]
      · simp only [hax, false_and, false_or]
        refine ⟨fun h => h.elim, fun h => ?_⟩
        omega
  · rintro rec s ⟨h1, h2, h3⟩
    rw [List.take_length] at h2
    unfold Mk.spans_Make_l
    dsimp only
    rw [if_neg (by simp)]
    obtain ⟨q, e, hp, hq⟩ := a1l s (by omega)
    rw [e, Option.bind_some]
    have hql := hp.length_eq
    refine Zs q (by omega) hq (fun u hu => h1 u (hp.mem_iff.1 hu)) (fun o => ∃ r, o = some r ∧ Nrm r ∧ (∀ x, InS r x ↔ InS d x ∧ 0 ≤ x ∧ x < 73049) ∧ r.length ≤ d.length) fun r a b c => ⟨r, rfl, a, fun x => ?_, by omega⟩
    rw [b x, a6c hp, h2 x]
end Go.PL
namespace Go.PL
open Go Go.Sort
theorem Xb {l : List Span} (h : Nrm l) (i : Nat) : Nrm (l.drop i) := ⟨fun s hs => h.1 s (List.mem_of_mem_drop hs), h.2.sublist (List.drop_sublist i l)⟩
theorem Rb {l : List Span} {s : Span} (h : Nrm (s :: l)) {x : Int} (hx : InS l x) : s.To < x := by
  obtain ⟨v, hv, h1⟩ := hx
  have := (zc.1 h).2.1 v hv
  omega
set_option maxHeartbeats 2000000 in
theorem L9 (a b : List Span) (ha : a.length ≤ 2 ^ 40) (hb : b.length ≤ 2 ^ 40) :
    ∃ r, ta a b = some r ∧ Nrm r ∧ ∀ x, InS r x ↔ InS a x ∧ InS b x ∧ 0 ≤ x ∧ x < 73049 := by
  obtain ⟨z, hz, nz, mz, lz⟩ := Ee a ha
  obtain ⟨w, hw, nw, mw, lw⟩ := Ee b hb
  unfold ta
  rw [hz, Option.bind_some, hw, Option.bind_some]
  refine ko (f := t6)
    (fun st => ∃ (x : List Span) (i j : Nat), st = (z, w, x, (i : Int), (j : Int)) ∧ i ≤ z.length ∧ j ≤ w.length ∧ Nrm x ∧ (∀ d, InS x d → InS z d ∧ InS w d) ∧ (∀ d, InS z d → InS w d → InS x d ∨ (InS (z.drop i) d ∧ InS (w.drop j) d)) ∧
      (∀ t ∈ x, ∀ y1 ∈ z.drop i, ∀ y2 ∈ w.drop j, t.To < max y1.From y2.From) ∧ x.length ≤ i + j)
    (fun st => z.length + w.length - st.2.2.2.1.toNat - st.2.2.2.2.toNat) _ ⟨[], 0, 0, rfl, Nat.zero_le _, Nat.zero_le _, L0, fun d h => absurd h Br, fun d h1 h2 => .inr (by simpa using ⟨h1, h2⟩), fun t h => (by cases h), Nat.zero_le _⟩ (by dsimp only; omega) ?_
  rintro st rec ⟨x, i, j, rfl, hi, hj, n, m1, m2, m3, hl⟩
  unfold t6
  dsimp only
  rw [bw, Option.bind_some]
  by_cases hc : i < z.length ∧ j < w.length
  · right
    obtain ⟨hi', hj'⟩ := hc
    rw [if_pos (by simp; omega)]
    obtain ⟨y1, e1⟩ : ∃ y1, z[i]? = some y1 := ⟨_, List.getElem?_eq_getElem hi'⟩
    obtain ⟨y2, e2⟩ : ∃ y2, w[j]? = some y2 := ⟨_, List.getElem?_eq_getElem hj'⟩
    have d1 := zo e1
    have d2 := zo e2
    have nd1 : Nrm (y1 :: z.drop (i + 1)) := d1 ▸ Xb nz i
    have nd2 : Nrm (y2 :: w.drop (j + 1)) := d2 ▸ Xb nw j
    rw [d1, d2] at m2 m3
    have i1 : InS z = InS z := rfl
    have z1 : ∀ d, y1.From ≤ d ∧ d < y1.To → InS z d := fun d h => ⟨y1, List.mem_of_getElem? e1, h⟩
    have z2 : ∀ d, y2.From ≤ d ∧ d < y2.To → InS w d := fun d h => ⟨y2, List.mem_of_getElem? e2, h⟩
    have b1 := (zc.1 nd1).2
    have b2 := (zc.1 nd2).2
    have next : ∀ x' : List Span, Nrm x' → (∀ d, InS x' d ↔ InS x d ∨ ((y1.From ≤ d ∧ d < y1.To) ∧ (y2.From ≤ d ∧ d < y2.To))) → (∀ t ∈ x', t ∈ x ∨ t.To = min y1.To y2.To) → x'.length ≤ i + j + 1 →
        ∃ s', Go.SX.joinC (ph rec) (z, w, x', (i : Int), (j : Int)) = rec s' ∧ (∃ (x : List Span) (i j : Nat), s' = (z, w, x, (i : Int), (j : Int)) ∧ i ≤ z.length ∧ j ≤ w.length ∧ Nrm x ∧ (∀ d, InS x d → InS z d ∧ InS w d) ∧ (∀ d, InS z d → InS w d → InS x d ∨ (InS (z.drop i) d ∧ InS (w.drop j) d)) ∧
          (∀ t ∈ x, ∀ y1 ∈ z.drop i, ∀ y2 ∈ w.drop j, t.To < max y1.From y2.From) ∧ x.length ≤ i + j) ∧ z.length + w.length - s'.2.2.2.1.toNat - s'.2.2.2.2.toNat < z.length + w.length - (i : Int).toNat - (j : Int).toNat := by
      intro x' n' q1 q2 q3
      rw [oy]; unfold ph; dsimp only
      simp only [d6 e1, d6 e2, Option.bind_some]
      rw [gl (by omega), gl (by omega)]
      have q4 : ∀ d, InS x' d → InS z d ∧ InS w d := by
        intro d hd
        rcases (q1 d).1 hd with h | h
        · exact m1 d h
        · exact ⟨z1 d h.1, z2 d h.2⟩
      by_cases hlt : y1.To < y2.To
      · rw [if_pos (by simpa using hlt)]
        refine ⟨_, rfl, ⟨x', i + 1, j, rfl, by omega, by omega, n', q4, fun d h1 h2 => ?_, fun t ht v1 hv1 v2 hv2 => ?_, by omega⟩, by simp only [Int.toNat_natCast]; omega⟩
        · rcases m2 d h1 h2 with h | ⟨h, h'⟩
          · exact .inl ((q1 d).2 (.inl h))
          · rcases kp.1 h with g | g
            · rcases kp.1 h' with g' | g'
              · exact .inl ((q1 d).2 (.inr ⟨g, g'⟩))
              · have := Rb nd2 g'; omega
            · right; rw [d2]; exact ⟨g, h'⟩
        · rw [d2] at hv2
          rcases q2 t ht with h | h
          · exact m3 t h v1 (List.mem_cons_of_mem _ hv1) v2 hv2
          · have := b1.1 v1 hv1; omega
      · rw [if_neg (by simpa using hlt)]
        refine ⟨_, rfl, ⟨x', i, j + 1, rfl, by omega, by omega, n', q4, fun d h1 h2 => ?_, fun t ht v1 hv1 v2 hv2 => ?_, by omega⟩, by simp only [Int.toNat_natCast]; omega⟩
        · rcases m2 d h1 h2 with h | ⟨h, h'⟩
          · exact .inl ((q1 d).2 (.inl h))
          · rcases kp.1 h' with g' | g'
            · rcases kp.1 h with g | g
              · exact .inl ((q1 d).2 (.inr ⟨g, g'⟩))
              · have := Rb nd1 g; omega
            · right; rw [d1]; exact ⟨h, g'⟩
        · rw [d1] at hv1
          rcases q2 t ht with h | h
          · exact m3 t h v1 hv1 v2 (List.mem_cons_of_mem _ hv2)
          · have := b2.1 v2 hv2; omega
    simp only [d6 e1, d6 e2, Option.bind_some]
    by_cases ho : max y1.From y2.From < min y1.To y2.To
    · rw [if_pos (by simpa using ho), de (by simp; omega), Option.bind_some]
      refine next _ (tv.2 ⟨n, fun t ht => m3 t ht y1 (List.mem_cons_self ..) y2 (List.mem_cons_self ..), by dsimp only; omega, by dsimp only; omega, by dsimp only; omega⟩) (fun d => ?_) (fun t ht => ?_) (by simp; omega)
      · rw [sf, vj]; dsimp only
        by_cases hx : InS x d
        · simp [hx]
        · simp only [hx, false_or]; omega
      · rcases List.mem_append.1 ht with h | h
        · exact .inl h
        · rw [List.mem_singleton] at h; subst h; exact .inr rfl
    · rw [if_neg (by simpa using ho)]
      refine next _ n (fun d => ?_) (fun t ht => .inl ht) (by omega)
      by_cases hx : InS x d
      · simp [hx]
      · simp only [hx, false_or]
        refine ⟨fun h => h.elim, fun h => ?_⟩
        omega
  · left
    rw [if_neg (by simp; omega)]
    refine ⟨x, rfl, n, fun d => ?_⟩
    have : InS x d ↔ InS z d ∧ InS w d := by
      refine ⟨m1 d, fun h => ?_⟩
      rcases m2 d h.1 h.2 with h | ⟨h1, h2⟩
      · exact h
      · exfalso
        by_cases hi' : i < z.length
        · rw [List.drop_eq_nil_of_le (by omega)] at h2; exact Br h2
        · rw [List.drop_eq_nil_of_le (by omega)] at h1; exact Br h1
    rw [this, mz, mw]
    constructor
    · rintro ⟨⟨h1, h2, h3⟩, h4, _⟩; exact ⟨h1, h4, h2, h3⟩
    · rintro ⟨h1, h4, h2, h3⟩; exact ⟨⟨h1, h2, h3⟩, h4, h2, h3⟩
theorem a5e (a : List Span) (s : Span) (ha : a.length ≤ 2 ^ 40) :
    ∃ r, vn a s = some r ∧ Nrm r ∧ ∀ x, InS r x ↔ InS a x ∧ (s.From ≤ x ∧ x < s.To) ∧ 0 ≤ x ∧ x < 73049 := by
  obtain ⟨r, h1, h2, h3⟩ := L9 a [s] ha (by simp)
  refine ⟨r, by unfold vn; rw [h1]; rfl, h2, fun x => ?_⟩
  rw [h3, vj]
theorem Po : ∀ {l : List Int} {N lo : Int}, l.Pairwise (· < ·) → (∀ x ∈ l, lo ≤ x ∧ x ≤ N) → lo ≤ N + 1 → (l.length : Int) ≤ N + 1 - lo
  | [], _, _, _, _, h => by simp; omega
  | x :: l, N, lo, hp, hr, h => by
    obtain ⟨h1, h2⟩ := List.pairwise_cons.1 hp
    have hx := hr x (List.mem_cons_self ..)
    have := Po (l := l) (N := N) (lo := x + 1) h2 (fun y hy => ⟨h1 y hy, (hr y (List.mem_cons_of_mem _ hy)).2⟩) (by omega)
    simp only [List.length_cons]; omega
theorem Xi (l : List Int) (n : Int) (hl : l.length ≤ 2 ^ 40) (hs : l.Pairwise (· < ·)) : ∃ r, pw l n = some r ∧ r.Pairwise (· < ·) ∧ ∀ x, x ∈ r ↔ x = n ∨ x ∈ l := by
  unfold pw
  refine ko (f := tx l n) (fun st => ∃ k : Nat, st = (k : Int) ∧ k ≤ l.length ∧ ∀ u ∈ l.drop k, n ≤ u) (fun st => st.toNat) _ ⟨l.length, rfl, Nat.le_refl _, by simp⟩ (by simp only [Int.toNat_natCast]; omega) ?_
  rintro st rec ⟨k, rfl, hk, hd⟩
  unfold tx
  have stop : (∀ u ∈ l.take k, u < n) → ∃ r, (Option.bind (if decide ((k : Int) < (l.length : Int)) = true then Option.bind (av l (k : Int)) fun y2 => some (y2 == n) else some false) fun c2 => if c2 = true then some l else
      Option.bind (fp l 0 (k : Int)) fun s => Option.bind (m8 8 [] s) fun l_1 => Option.bind (m8 8 l_1 [n]) fun l2 => Option.bind (fp l (k : Int) (l.length : Int)) fun s2 => Option.bind (m8 8 l2 s2) fun l3 => some l3) = some r ∧ r.Pairwise (· < ·) ∧ ∀ x, x ∈ r ↔ x = n ∨ x ∈ l := by
    intro hlo
    have put : ((∀ u ∈ l.drop k, n < u)) → ∃ r, (Option.bind (fp l 0 (k : Int)) fun s => Option.bind (m8 8 [] s) fun l_1 => Option.bind (m8 8 l_1 [n]) fun l2 => Option.bind (fp l (k : Int) (l.length : Int)) fun s2 => Option.bind (m8 8 l2 s2) fun l3 => some l3) = some r ∧ r.Pairwise (· < ·) ∧ ∀ x, x ∈ r ↔ x = n ∨ x ∈ l := by
      intro hhi
      have ed : (l.drop k).take (l.length - k) = l.drop k := List.take_of_length_le (by simp)
      rw [rn (by omega) (by omega) (by omega), Option.bind_some, de (by simp; omega), Option.bind_some, de (by simp; omega), Option.bind_some, rn (by omega) (by omega) (by omega), Option.bind_some, de (by simp; omega), Option.bind_some]
      refine ⟨_, rfl, ?_, fun x => ?_⟩
      · simp only [Int.toNat_natCast, List.nil_append, Int.toNat_zero, Nat.sub_zero, List.drop_zero]
        rw [ed, List.append_assoc, List.pairwise_append]
        refine ⟨hs.sublist (List.take_sublist k l), ?_, fun u hu v hv => ?_⟩
        · rw [List.singleton_append, List.pairwise_cons]; exact ⟨hhi, hs.sublist (List.drop_sublist k l)⟩
        · have := hlo u hu
          rcases List.mem_append.1 hv with h | h
          · rw [List.mem_singleton] at h; omega
          · have := hhi v h; omega
      · simp only [Int.toNat_natCast, List.nil_append, Int.toNat_zero, Nat.sub_zero, List.drop_zero]
        rw [ed, List.mem_append, List.mem_append, List.mem_singleton]
        have e : x ∈ l ↔ x ∈ l.take k ∨ x ∈ l.drop k := by rw [← List.mem_append, List.take_append_drop]
        rw [e]
        constructor
        · rintro ((h | h) | h)
          · exact .inr (.inl h)
          · exact .inl h
          · exact .inr (.inr h)
        · rintro (h | h | h)
          · exact .inl (.inr h)
          · exact .inl (.inl h)
          · exact .inr h
    by_cases hc : k < l.length
    · obtain ⟨y, e⟩ : ∃ y, l[k]? = some y := ⟨_, List.getElem?_eq_getElem hc⟩
      rw [if_pos (by simpa using hc), d6 e, Option.bind_some, Option.bind_some]
      have d := zo e
      by_cases hy : y = n
      · rw [if_pos (by simpa using hy)]
        refine ⟨l, rfl, hs, fun x => ⟨.inr, fun h => ?_⟩⟩
        rcases h with h | h
        · rw [h, ← hy]; exact List.mem_of_getElem? e
        · exact h
      · rw [if_neg (by simpa using hy)]
        refine put fun u hu => ?_
        have hs' := hs.sublist (List.drop_sublist k l)
        rw [d] at hu hd hs'
        have hy' := hd y (List.mem_cons_self ..)
        rcases List.mem_cons.1 hu with h | h
        · omega
        · have := (List.pairwise_cons.1 hs').1 u h; omega
    · rw [if_neg (by simpa using hc), Option.bind_some, if_neg (by simp)]
      refine put fun u hu => ?_
      rw [List.drop_eq_nil_of_le (by omega)] at hu; cases hu
  by_cases hk0 : k = 0
  · left
    subst hk0
    rw [if_neg (by simp), Option.bind_some, if_neg (by simp)]
    exact stop (by simp)
  · obtain ⟨k, rfl⟩ : ∃ k', k = k' + 1 := ⟨k - 1, by omega⟩
    obtain ⟨y, e⟩ : ∃ y, l[k]? = some y := ⟨_, List.getElem?_eq_getElem (by omega)⟩
    have ei : i64 (((k + 1 : Nat) : Int) - 1) = (k : Int) := by rw [au (by omega) (by omega)]; omega
    rw [if_pos (by simp), ei, d6 e, Option.bind_some, Option.bind_some]
    by_cases hy : n ≤ y
    · right
      rw [if_pos (by simpa using hy)]
      refine ⟨_, rfl, ⟨k, rfl, by omega, fun u hu => ?_⟩, by simp only [Int.toNat_natCast]; omega⟩
      rw [zo e] at hu
      rcases List.mem_cons.1 hu with h | h
      · omega
      · exact hd u h
    · left
      rw [if_neg (by simpa using hy)]
      refine stop fun u hu => ?_
      rw [j3 e] at hu
      rcases List.mem_append.1 hu with h | h
      · have hs' := hs.sublist (List.take_sublist (k + 1) l)
        rw [j3 e, List.pairwise_append] at hs'
        have := hs'.2.2 u h y (List.mem_singleton.2 rfl); omega
      · rw [List.mem_singleton] at h; omega
end Go.PL
namespace Go.PL
open Go Go.Sort
def inB (l : List Span) (x : Int) : Bool := l.any fun s => decide (s.From ≤ x) && decide (x < s.To)
theorem D4 {l : List Span} {x : Int} : inB l x = true ↔ InS l x := by
  unfold inB InS; simp
theorem E5 (l : List Span) (day : Int) (hl : l.length ≤ 2 ^ 40) : jj l day = some (inB l day && (decide (0 ≤ day) && decide (day ≤ 73048))) := by
  unfold jj
  refine gr (f := jp l day) l (fun (_ : Unit) i => i) (fun _ i => (inB (l.take i) day && (decide (0 ≤ day) && decide (day ≤ 73048))) = false) (fun o => o = some (inB l day && (decide (0 ≤ day) && decide (day ≤ 73048)))) (by omega) ?_ ?_ () (by simp [inB])
  · rintro rec _ i y hi hy h
    unfold jp bz
    rw [if_pos (by simp; omega), d6 hy]
    simp only [Option.bind_some, bw, ge_iff_le]
    rw [gl (by omega)]
    by_cases hc : ((decide (y.From ≤ day) && decide (day < y.To)) && (decide (0 ≤ day) && decide (day ≤ 73048))) = true
    · left
      rw [if_pos hc]
      rw [Bool.and_eq_true] at hc
      have : inB l day = true := by
        rw [D4]; refine ⟨y, List.mem_of_getElem? hy, ?_⟩
        have := hc.1; simp at this; exact this
      rw [this, hc.2]; rfl
    · right
      rw [if_neg hc]
      refine ⟨(), rfl, ?_⟩
      rw [j3 hy]
      rw [Bool.not_eq_true] at hc
      have e : inB (l.take i ++ [y]) day = (inB (l.take i) day || (decide (y.From ≤ day) && decide (day < y.To))) := by unfold inB; simp
      rw [e, Bool.and_or_distrib_right, h, hc]; rfl
  · rintro rec _ h
    unfold jp
    rw [if_neg (by simp)]
    rw [List.take_length] at h
    rw [h]
set_option maxHeartbeats 1000000 in
theorem Xz (L : List (List Span)) (hL : L.length ≤ 2 ^ 40) (hl : ∀ l ∈ L, l.length ≤ 2 ^ 40) :
    ∃ z, qu L = some z ∧ z.Pairwise (· < ·) ∧ (∀ x ∈ z, 0 ≤ x ∧ x ≤ 73049) ∧ ∀ l ∈ L, ∀ s ∈ l, max s.From 0 < min s.To 73049 → max s.From 0 ∈ z ∧ min s.To 73049 ∈ z := by
  unfold qu
  refine gr (f := mt L) L (fun z i => (z, i)) (fun z i => z.Pairwise (· < ·) ∧ (∀ x ∈ z, 0 ≤ x ∧ x ≤ 73049) ∧ ∀ l ∈ L.take i, ∀ s ∈ l, max s.From 0 < min s.To 73049 → max s.From 0 ∈ z ∧ min s.To 73049 ∈ z)
    (fun o => ∃ z, o = some z ∧ z.Pairwise (· < ·) ∧ (∀ x ∈ z, 0 ≤ x ∧ x ≤ 73049) ∧ ∀ l ∈ L, ∀ s ∈ l, max s.From 0 < min s.To 73049 → max s.From 0 ∈ z ∧ min s.To 73049 ∈ z) (by omega) ?_ ?_ [] ⟨.nil, fun x h => (by cases h), fun l h => by simp at h⟩
  · rintro rec z i l hi hll ⟨h1, h2, h3⟩
    right
    unfold mt
    dsimp only
    rw [if_pos (by simp; omega)]
    have hlm := hl l (List.mem_of_getElem? hll)
    refine gr (f := ma L (z, (i : Int)) rec) l (fun z i => (z, i)) (fun z k => z.Pairwise (· < ·) ∧ (∀ x ∈ z, 0 ≤ x ∧ x ≤ 73049) ∧ (∀ l ∈ L.take i, ∀ s ∈ l, max s.From 0 < min s.To 73049 → max s.From 0 ∈ z ∧ min s.To 73049 ∈ z) ∧ ∀ s ∈ l.take k, max s.From 0 < min s.To 73049 → max s.From 0 ∈ z ∧ min s.To 73049 ∈ z)
      (fun o => ∃ s', o = rec (s', ((i + 1 : Nat) : Int)) ∧ s'.Pairwise (· < ·) ∧ (∀ x ∈ s', 0 ≤ x ∧ x ≤ 73049) ∧ ∀ l ∈ L.take (i + 1), ∀ s ∈ l, max s.From 0 < min s.To 73049 → max s.From 0 ∈ s' ∧ min s.To 73049 ∈ s') (by omega) ?_ ?_ z ⟨h1, h2, h3, fun s h => by simp at h⟩
    · rintro rec2 q k y hk hy ⟨a1, a2, a3, a4⟩
      right
      unfold ma se
      dsimp only
      rw [d6 hll, Option.bind_some, if_pos (by simp; omega), Option.bind_some, d6 hy, Option.bind_some, Option.bind_some, gl (by omega)]
      dsimp only
      have hqn : q.length ≤ 2 ^ 40 := by
        have := Po a1 a2 (by omega); omega
      by_cases hc : max y.From 0 < min y.To 73049
      · rw [if_pos (by simpa using hc)]
        obtain ⟨q1, e1, s1, m1⟩ := Xi q (max y.From 0) hqn a1
        have b1 : ∀ x ∈ q1, 0 ≤ x ∧ x ≤ 73049 := fun x hx => by
          rcases (m1 x).1 hx with h | h
          · omega
          · exact a2 x h
        have hq1 : q1.length ≤ 2 ^ 40 := by
          have := Po s1 b1 (by omega); omega
        obtain ⟨q2, e2, s2, m2⟩ := Xi q1 (min y.To 73049) hq1 s1
        rw [e1, Option.bind_some, e2, Option.bind_some]
        have up : ∀ x ∈ q, x ∈ q2 := fun x hx => (m2 x).2 (.inr ((m1 x).2 (.inr hx)))
        refine ⟨q2, rfl, s2, fun x hx => ?_, fun v hv s hs hh => ?_, fun s hs hh => ?_⟩
        · rcases (m2 x).1 hx with h | h
          · omega
          · exact b1 x h
        · exact ⟨up _ (a3 v hv s hs hh).1, up _ (a3 v hv s hs hh).2⟩
        · rw [j3 hy] at hs
          rcases List.mem_append.1 hs with h | h
          · exact ⟨up _ (a4 s h hh).1, up _ (a4 s h hh).2⟩
          · rw [List.mem_singleton] at h; subst h
            exact ⟨(m2 _).2 (.inr ((m1 _).2 (.inl rfl))), (m2 _).2 (.inl rfl)⟩
      · rw [if_neg (by simpa using hc)]
        refine ⟨q, rfl, a1, a2, a3, fun s hs hh => ?_⟩
        rw [j3 hy] at hs
        rcases List.mem_append.1 hs with h | h
        · exact a4 s h hh
        · rw [List.mem_singleton] at h; subst h; omega
    · rintro rec2 q ⟨a1, a2, a3, a4⟩
      unfold ma
      dsimp only
      rw [d6 hll, Option.bind_some, if_neg (by simp), gl (by omega)]
      refine ⟨q, rfl, a1, a2, fun v hv s hs hh => ?_⟩
      rw [j3 hll] at hv
      rcases List.mem_append.1 hv with h | h
      · exact a3 v h s hs hh
      · rw [List.mem_singleton] at h; subst h
        rw [List.take_length] at a4
        exact a4 s hs hh
  · rintro rec z ⟨h1, h2, h3⟩
    rw [List.take_length] at h3
    unfold mt
    dsimp only
    rw [if_neg (by simp)]
    exact ⟨z, rfl, h1, h2, h3⟩
theorem a7c (x : List Span) (s : Span) (hx : Nrm x) (h1 : 0 ≤ s.From) (h2 : s.From < s.To) (h3 : s.To ≤ 73049) (h4 : ∀ t ∈ x, t.To ≤ s.From) :
    ∃ r, t7 x s = some r ∧ Nrm r ∧ ∀ d, InS r d ↔ InS x d ∨ (s.From ≤ d ∧ d < s.To) := by
  unfold t7
  have hlen := Uo hx
  rcases aib x with rfl | ⟨a, t, rfl⟩
  · rw [if_neg (by simp), Option.bind_some, if_neg (by simp), de (by simp), Option.bind_some, de (by simp), Option.bind_some]
    refine ⟨_, rfl, tv.2 ⟨L0, fun t h => (by cases h), h1, h2, h3⟩, fun d => ?_⟩
    rw [sf, vj]; rfl
  · obtain ⟨n1, n2, n3⟩ := tv.1 hx
    have hal : a.length < 2 ^ 62 := by simp at hlen; omega
    rw [if_pos (by simp), V7 a t hal, Option.bind_some, Option.bind_some]
    have ht := h4 t (by simp)
    by_cases hc : t.To = s.From
    · rw [if_pos (by simpa using hc), de (by simp at hlen ⊢; omega), Option.bind_some, List.nil_append, V7 a t hal, Option.bind_some, Option.bind_some, Wx a t _ hal]
      refine ⟨_, rfl, tv.2 ⟨n1, n2, n3.1, by dsimp only; omega, h3⟩, fun d => ?_⟩
      rw [sf, vj, sf, vj]; dsimp only
      by_cases ha : InS a d
      · simp [ha]
      · simp only [ha, false_or]; omega
    · rw [if_neg (by simpa using hc), de (by simp at hlen ⊢; omega), Option.bind_some, List.nil_append, de (by simp at hlen ⊢; omega), Option.bind_some]
      refine ⟨_, rfl, tv.2 ⟨hx, fun u hu => ?_, h1, h2, h3⟩, fun d => ?_⟩
      · rcases List.mem_append.1 hu with h | h
        · have := n2 u h; omega
        · rw [List.mem_singleton] at h; subst h; omega
      · rw [sf (a := a ++ [t]), vj]
def fm (p : Int) (u v : Bool) : Bool := ((((p == 1) && u) && v) || ((p == 2) && (u || v))) || (((p == 3) && u) && (!v))
theorem agx {p : Int} {u v : Bool} (h : fm p u v = true) : u = true ∨ v = true := by
  unfold fm at h
  cases u <;> cases v <;> simp_all
set_option maxHeartbeats 2000000 in
theorem Ge (a b : List Span) (p : Int) (ha : a.length ≤ 2 ^ 40) (hb : b.length ≤ 2 ^ 40) :
    ∃ r, jy a b p = some r ∧ Nrm r ∧ ∀ x, InS r x ↔ fm p (inB a x) (inB b x) = true ∧ 0 ≤ x ∧ x < 73049 := by
  obtain ⟨z, hz, sz, rz, ez⟩ := Xz [a, b] (by simp) (by simp [ha, hb])
  have zlen : z.length ≤ 73050 := by have := Po sz rz (by omega); omega
  unfold jy
  rw [hz, Option.bind_some]
  have key : ∀ l ∈ [a, b], ∀ d, InS l d → 0 ≤ d → d < 73049 → ∃ e1 ∈ z, ∃ e2 ∈ z, e1 ≤ d ∧ d < e2 ∧ ∀ d', e1 ≤ d' → d' < e2 → InS l d' := by
    rintro l hl d ⟨s, hs, h1, h2⟩ h3 h4
    obtain ⟨m1, m2⟩ := ez l hl s hs (by omega)
    exact ⟨_, m1, _, m2, by omega, by omega, fun d' g1 g2 => ⟨s, hs, by omega, by omega⟩⟩
  have V : ∀ d, (fm p (inB a d) (inB b d) = true ∧ 0 ≤ d ∧ d < 73049) → ∃ e1 ∈ z, ∃ e2 ∈ z, e1 ≤ d ∧ d < e2 := by
    rintro d ⟨h, h0, h1⟩
    rcases agx h with h | h
    · obtain ⟨e1, m1, e2, m2, g1, g2, _⟩ := key a (by simp) d (D4.1 h) h0 h1; exact ⟨e1, m1, e2, m2, g1, g2⟩
    · obtain ⟨e1, m1, e2, m2, g1, g2, _⟩ := key b (by simp) d (D4.1 h) h0 h1; exact ⟨e1, m1, e2, m2, g1, g2⟩
  refine ko (f := ou z a b p) (fun st => ∃ (x : List Span) (i : Nat), st = (x, (i : Int)) ∧ i ≤ z.length ∧ Nrm x ∧ ∀ d, InS x d ↔ (fm p (inB a d) (inB b d) = true ∧ 0 ≤ d ∧ d < 73049) ∧ ∀ e ∈ z.drop i, d < e)
    (fun st => z.length - st.2.toNat) _ ⟨[], 0, rfl, Nat.zero_le _, L0, fun d => ⟨fun h => absurd h Br, fun ⟨h1, h2⟩ => ?_⟩⟩ (by dsimp only; omega) ?_
  · obtain ⟨e1, m1, e2, m2, g1, g2⟩ := V d h1
    have := h2 e1 (by simpa using m1); omega
  rintro st rec ⟨x, i, rfl, hi, n, m⟩
  unfold ou
  dsimp only
  rw [gl (by omega)]
  by_cases hc : i + 1 < z.length
  · right
    rw [if_pos (by simp; omega)]
    obtain ⟨y1, e1⟩ : ∃ y, z[i]? = some y := ⟨_, List.getElem?_eq_getElem (by omega)⟩
    obtain ⟨y2, e2⟩ : ∃ y, z[i + 1]? = some y := ⟨_, List.getElem?_eq_getElem (by omega)⟩
    have d1 := zo e1
    have d2 := zo e2
    have sd : (y1 :: y2 :: z.drop (i + 1 + 1)).Pairwise (· < ·) := by rw [← d2, ← d1]; exact sz.sublist (List.drop_sublist i z)
    obtain ⟨p1, p2⟩ := List.pairwise_cons.1 sd
    obtain ⟨p3, _⟩ := List.pairwise_cons.1 p2
    have h12 := p1 y2 (List.mem_cons_self ..)
    have r1 := rz y1 (List.mem_of_getElem? e1)
    have r2 := rz y2 (List.mem_of_getElem? e2)
    have zs : ∀ e ∈ z, e ≤ y1 ∨ y2 ≤ e := by
      intro e he
      have hh : e ∈ z.take (i + 1) ∨ e ∈ z.drop (i + 1) := by rw [← List.mem_append, List.take_append_drop]; exact he
      rcases hh with h | h
      · left
        rw [j3 e1] at h
        rcases List.mem_append.1 h with h | h
        · have := sz.sublist (List.take_sublist (i + 1) z)
          rw [j3 e1, List.pairwise_append] at this
          have := this.2.2 e h y1 (List.mem_singleton.2 rfl); omega
        · rw [List.mem_singleton] at h; omega
      · right
        rw [d2] at h
        rcases List.mem_cons.1 h with h | h
        · omega
        · have := p3 e h; omega
    have same : ∀ l ∈ [a, b], ∀ d, y1 ≤ d → d < y2 → (inB l d = inB l y1) := by
      intro l hl d g1 g2
      rw [Bool.eq_iff_iff, D4, D4]
      constructor
      · intro h
        obtain ⟨f1, w1, f2, w2, q1, q2, q3⟩ := key l hl d h (by omega) (by omega)
        refine q3 y1 ?_ ?_
        · rcases zs f1 w1 with h | h
          · exact h
          · omega
        · omega
      · intro h
        obtain ⟨f1, w1, f2, w2, q1, q2, q3⟩ := key l hl y1 h (by omega) (by omega)
        refine q3 d (by omega) ?_
        rcases zs f2 w2 with h | h <;> omega
    have lowE : ∀ d, (∀ e ∈ z.drop i, d < e) ↔ d < y1 := by
      intro d; rw [d1]
      constructor
      · intro h; exact h y1 (List.mem_cons_self ..)
      · intro h e he
        rcases List.mem_cons.1 he with h' | h'
        · omega
        · rw [d2] at h'; have := p1 e h'; omega
    have lowE2 : ∀ d, (∀ e ∈ z.drop (i + 1), d < e) ↔ d < y2 := by
      intro d; rw [d2]
      constructor
      · intro h; exact h y2 (List.mem_cons_self ..)
      · intro h e he
        rcases List.mem_cons.1 he with h' | h'
        · omega
        · have := p3 e h'; omega
    have v1 : (decide (0 ≤ y1) && decide (y1 ≤ 73048)) = true := by simp; omega
    rw [d6 e1, Option.bind_some, E5 a y1 ha, Option.bind_some, Option.bind_some, E5 b y1 hb, Option.bind_some]
    simp only [bw, dl, Option.bind_some, v1, Bool.and_true, d6 e2]
    have hfm : (((((p == 1) && inB a y1) && inB b y1) || ((p == 2) && (inB a y1 || inB b y1))) || (((p == 3) && inB a y1) && (!inB b y1))) = fm p (inB a y1) (inB b y1) := rfl
    rw [hfm]
    by_cases hf : fm p (inB a y1) (inB b y1) = true
    · rw [if_pos hf]
      obtain ⟨r, er, nr, mr⟩ := a7c x (⟨y1, y2⟩ : Span) n r1.1 h12 r2.2 (fun t ht => by
        have q := n.1 t ht
        have := (m (t.To - 1)).1 ⟨t, ht, by omega, by omega⟩
        have := (lowE _).1 this.2
        dsimp only; omega)
      rw [er, Option.bind_some]
      refine ⟨_, rfl, ⟨r, i + 1, rfl, by omega, nr, fun d => ?_⟩, by simp only [Int.toNat_natCast]; omega⟩
      rw [mr, m, lowE, lowE2]
      dsimp only
      constructor
      · rintro (⟨h1, h2⟩ | ⟨h1, h2⟩)
        · exact ⟨h1, by omega⟩
        · rw [same a (by simp) d h1 h2, same b (by simp) d h1 h2]; exact ⟨⟨hf, by omega, by omega⟩, h2⟩
      · rintro ⟨h1, h2⟩
        by_cases h3 : d < y1
        · exact .inl ⟨h1, h3⟩
        · exact .inr ⟨by omega, h2⟩
    · rw [if_neg hf]
      refine ⟨_, rfl, ⟨x, i + 1, rfl, by omega, n, fun d => ?_⟩, by simp only [Int.toNat_natCast]; omega⟩
      rw [m, lowE, lowE2]
      constructor
      · rintro ⟨h1, h2⟩; exact ⟨h1, by omega⟩
      · rintro ⟨h1, h2⟩
        refine ⟨h1, ?_⟩
        by_cases h3 : d < y1
        · exact h3
        · exfalso
          rw [same a (by simp) d (by omega) h2, same b (by simp) d (by omega) h2] at h1
          exact hf h1.1
  · left
    rw [if_neg (by simp; omega)]
    refine ⟨x, rfl, n, fun d => ?_⟩
    rw [m]
    refine ⟨fun h => h.1, fun h => ⟨h, fun e he => ?_⟩⟩
    obtain ⟨f1, w1, f2, w2, q1, q2⟩ := V d h
    have hh : f2 ∈ z.take i ∨ f2 ∈ z.drop i := by rw [← List.mem_append, List.take_append_drop]; exact w2
    have hd1 : (z.drop i).length ≤ 1 := by simp; omega
    match hzd : z.drop i, hd1 with
    | [], _ => rw [hzd] at he; cases he
    | [u], _ =>
      rw [hzd] at he hh
      rw [List.mem_singleton] at he
      subst he
      rcases hh with h' | h'
      · have := sz
        rw [← List.take_append_drop i z, hzd, List.pairwise_append] at this
        have := this.2.2 f2 h' e (List.mem_singleton.2 rfl); omega
      · rw [List.mem_singleton] at h'; omega
end Go.PL
namespace Go.PL
open Go Go.SX
theorem Ry (l : List Span) (hl : l.length ≤ 2 ^ 40) : m5 l = spans_Make l := by
  obtain ⟨r, h1, h2, h3, _⟩ := Ee l hl
  obtain ⟨q, g1, g2, g3⟩ := Ge l [] 2 hl (by simp)
  unfold m5
  rw [g1, h1, Option.bind_some]
  congr 1
  refine Nv g2 h2 fun x => ?_
  rw [g3, h3, ← D4]
  unfold fm inB
  simp
theorem a5r (l : List Span) (s : Span) (hl : l.length ≤ 2 ^ 40) : ∃ r, vn l s = some r ∧ oi l s = some r ∧ Nrm r := by
  obtain ⟨r, h1, h2, h3⟩ := a5e l s hl
  obtain ⟨q, g1, g2, g3⟩ := Ge l [s] 1 hl (by simp)
  refine ⟨r, h1, ?_, h2⟩
  unfold oi
  rw [g1, Option.bind_some]
  congr 1
  refine Nv g2 h2 fun x => ?_
  rw [g3, h3, ← D4]
  unfold fm inB
  simp [and_assoc]
def Zh (n : Int) (s : Span) : Int := n + (s.To - s.From)
theorem ac5 (l : List Span) (hl : l.length ≤ 2 ^ 40) : ∃ n, xy l = some n ∧ l6 l = some n := by
  obtain ⟨r, h1, h2, h3, _⟩ := Ee l hl
  have hr := Uo h2
  have step : ∀ (s : Int) (i : Nat) (y : Span), r[i]? = some y → (0 ≤ s ∧ s ≤ 73049 ∧ ∀ t ∈ r.drop i, s ≤ t.From) → (0 ≤ Zh s y ∧ Zh s y ≤ 73049 ∧ ∀ t ∈ r.drop (i + 1), Zh s y ≤ t.From) ∧ y.From < y.To ∧ y.To ≤ 73049 ∧ 0 ≤ y.From := by
    rintro s i y hy ⟨a1, a2, a3⟩
    have hd := zo hy
    have nd : Nrm (y :: r.drop (i + 1)) := hd ▸ ⟨fun s hs => h2.1 s (List.mem_of_mem_drop hs), h2.2.sublist (List.drop_sublist i r)⟩
    obtain ⟨n1, n2, n3⟩ := zc.1 nd
    have := a3 y (by rw [hd]; exact List.mem_cons_self)
    unfold Zh
    refine ⟨⟨by omega, by omega, fun t ht => ?_⟩, n3.2.1, n3.2.2, n3.1⟩
    have := n2 t ht
    omega
  refine ⟨r.foldl Zh 0, ?_, ?_⟩
  · unfold xy Bo
    rw [h1, Option.bind_some, Ea (f := tw r 73049) r (fun s i => (s, r, i)) Zh (fun s => some s) (by omega) 0 (fun s i => 0 ≤ s ∧ s ≤ 73049 ∧ ∀ t ∈ r.drop i, s ≤ t.From) ⟨by omega, by omega, fun t ht => (h2.1 t (List.mem_of_mem_drop ht)).1⟩ (fun rec s i y hy hJ => ?_) fun rec s hJ => ?_, Option.bind_some]
    · obtain ⟨b1, b2, b3, b4⟩ := step s i y hy hJ
      refine ⟨b1, ?_⟩
      have hi := (List.getElem?_eq_some_iff.1 hy).1
      unfold tw
      dsimp only
      rw [if_pos (ox hi)]
      simp only [d6 hy, Option.bind_some]
      rw [if_pos (by simp; omega)]
      have e : i64 (s + i64 (min y.To 73049 - y.From)) = Zh s y := by
        unfold Zh
        obtain ⟨c1, c2, _⟩ := b1
        unfold Zh at c1 c2
        rw [Int.min_eq_left b3, au (n := y.To - y.From) (by omega) (by omega), au (by omega) (by omega)]
      rw [e]
    · unfold tw
      dsimp only
      rw [if_neg (jt _)]
  · unfold l6
    rw [Ry l hl, h1, Option.bind_some, Ea (f := nn) r (fun s i => (s, r, i)) Zh (fun s => some s) (by omega) 0 (fun s i => 0 ≤ s ∧ s ≤ 73049 ∧ ∀ t ∈ r.drop i, s ≤ t.From) ⟨by omega, by omega, fun t ht => (h2.1 t (List.mem_of_mem_drop ht)).1⟩ (fun rec s i y hy hJ => ?_) fun rec s hJ => ?_]
    · obtain ⟨b1, b2, b3, b4⟩ := step s i y hy hJ
      refine ⟨b1, ?_⟩
      have hi := (List.getElem?_eq_some_iff.1 hy).1
      unfold nn
      dsimp only
      rw [if_pos (ox hi)]
      simp only [d6 hy, Option.bind_some]
      have e : i64 (s + i64 (y.To - y.From)) = Zh s y := by
        unfold Zh
        obtain ⟨c1, c2, _⟩ := b1
        unfold Zh at c1 c2
        rw [au (n := y.To - y.From) (by omega) (by omega), au (by omega) (by omega)]
      rw [e]
    · unfold nn
      dsimp only
      rw [if_neg (jt _)]
theorem E0 (l : List Span) (d : Int) (hl : l.length ≤ 2 ^ 30) : rr l d = some ((decide (0 ≤ d) && decide (d ≤ 73048)) && inB l d) := by
  unfold rr
  rw [dl, Option.bind_some]
  obtain ⟨n, h1, h2⟩ := uo (f := c3 l d) l (fun s => decide (s.From ≤ d) && decide (d < s.To)) hl (fun rec i y hy => by
    have hi := (List.getElem?_eq_some_iff.1 hy).1
    unfold c3 wx
    rw [if_pos (ox hi)]
    simp only [d6 hy, Option.bind_some, bw]) fun rec => by
    unfold c3
    rw [if_neg (jt _)]
  have e : (decide (d < 0) || decide (d ≥ 73049)) = !(decide (0 ≤ d) && decide (d ≤ 73048)) := by
    rw [Bool.eq_iff_iff]; simp; omega
  rw [e]
  cases hc : (decide (0 ≤ d) && decide (d ≤ 73048))
  · rfl
  · unfold cu d7
    rw [h1, Option.bind_some, Option.bind_some, h2]
    rfl
def Ws (l : List api_Fact) (k r : Int) : List Span := (l.filter fun f => (f.Kind == k) && (f.Ref == r)).map (·.Span)
theorem Ua (l : List api_Fact) (k r : Int) : (Ws l k r).length ≤ l.length := by
  unfold Ws; rw [List.length_map]; exact List.length_filter_le _ _
theorem Rh {α β ρ : Type} {f : (List β × Int → Option ρ) → List β × Int → Option ρ} {k : Nat} (l : List α) (p : α → Bool) (g : α → β) (out : List β → Option ρ) (hl : l.length ≤ 2 ^ 30) (hk : k ≤ 1000)
    (hstep : ∀ (rec : List β × Int → Option ρ) (s : List β) (i : Nat) (y : α), l[i]? = some y → f rec (s, (i : Int)) = if p y = true then Option.bind (m8 k s [g y]) (fun a => rec (a, i64 ((i : Int) + 1))) else rec (s, i64 ((i : Int) + 1)))
    (hfin : ∀ (rec : List β × Int → Option ρ) (s : List β), f rec (s, (l.length : Int)) = out s) : am FU f ([], 0) = out ((l.filter p).map g) := by
  refine gr (f := f) l (fun s i => (s, i)) (fun s i => s = ((l.take i).filter p).map g) (fun o => o = out ((l.filter p).map g)) (by omega) ?_ ?_ [] (by simp)
  · rintro rec s i y hi hy rfl
    right
    have hlen : (((l.take i).filter p).map g).length ≤ i := by
      have := List.length_filter_le p (l.take i); rw [List.length_take] at this; rw [List.length_map]; omega
    rw [hstep _ _ _ _ hy, gl (by omega), j3 hy, List.filter_append]
    by_cases hc : p y = true
    · rw [if_pos hc, de (by
        simp only [List.length_cons, List.length_nil]
        calc ((((l.take i).filter p).map g).length + 1) * k ≤ (2 ^ 30 + 1) * 1000 := Nat.mul_le_mul (by omega) hk
          _ ≤ _ := by omega), Option.bind_some]
      exact ⟨_, rfl, by simp [hc]⟩
    · rw [if_neg hc]
      rw [Bool.not_eq_true] at hc
      exact ⟨_, rfl, by simp [hc]⟩
  · rintro rec s rfl
    rw [hfin, List.take_length]
theorem N9 (l : List api_Fact) (k r : Int) (hl : l.length ≤ 2 ^ 30) : l8 l k r = some (Ws l k r) := by
  unfold l8 Ws
  refine Rh (k := 16) (ρ := List Span) l (fun f => (f.Kind == k) && (f.Ref == r)) (·.Span) some hl (by omega) (fun rec s i y hy => ?_) fun rec s => ?_
  · have hi := (List.getElem?_eq_some_iff.1 hy).1
    unfold si
    dsimp only
    rw [if_pos (ox hi)]
    simp only [d6 hy, Option.bind_some, bw]
  · unfold si
    dsimp only
    rw [if_neg (jt _)]
theorem a3o (l : List api_Fact) (c d : Int) : inB (Ws l 10 c) d = l.any (raB c d) := by
  unfold inB Ws raB
  rw [List.any_map, List.any_filter]
  simp only [Function.comp_def, Bool.and_assoc]
def aah (l : List api_Fact) (r e : Int) : Int := (((vn (Ws l 14 r) (⟨0, i64 (e + 1)⟩ : Span)).bind xy).getD 0)
theorem My (l : List api_Fact) (p r e : Int) (hl : l.length ≤ 2 ^ 30) : n4 l p r e = some (aah (ofP l p) r e) ∧ ∃ q, vn (Ws (ofP l p) 14 r) (⟨0, i64 (e + 1)⟩ : Span) = some q ∧ xy q = some (aah (ofP l p) r e) := by
  have h0 : (Ws (ofP l p) 14 r).length ≤ 2 ^ 40 := by have := Ua (ofP l p) 14 r; have := yb l p; omega
  obtain ⟨q, h1, h2, h3⟩ := a5r (Ws (ofP l p) 14 r) (⟨0, i64 (e + 1)⟩ : Span) h0
  have hq := Uo h3
  obtain ⟨n, g1, g2⟩ := ac5 q (by omega)
  have hn : aah (ofP l p) r e = n := by unfold aah; rw [h1, Option.bind_some, g1]; rfl
  refine ⟨?_, q, h1, by rw [g1, hn]⟩
  rw [hn]
  have hm : Ws (ofP l p) 14 r = (l.filter fun f => (f.Person == p) && ((f.Kind == 14) && (f.Ref == r))).map (·.Span) := by
    unfold Ws ofP
    rw [List.filter_filter]
    congr 2
    funext f
    exact Bool.and_comm _ _
  unfold n4
  rw [Rh (f := ju l p r e) (k := 16) (ρ := Int) l (fun f => (f.Person == p) && ((f.Kind == 14) && (f.Ref == r))) (·.Span) (fun s => (oi s (⟨0, i64 (e + 1)⟩ : Span)).bind fun v10 => l6 v10) hl (by omega) (fun rec s i y hy => ?_) fun rec s => ?_]
  · rw [← hm, h2, Option.bind_some, g2]
  · have hi := (List.getElem?_eq_some_iff.1 hy).1
    unfold ju
    dsimp only
    rw [if_pos (ox hi)]
    simp only [d6 hy, Option.bind_some, bw, Bool.and_assoc]
  · unfold ju
    dsimp only
    rw [if_neg (jt _)]
    congr 1
    funext v
    cases l6 v <;> rfl
end Go.PL
namespace Go.PL
open Go Go.SX
theorem Em {σ ρ τ : Type} {f : (σ → Option ρ) → σ → Option ρ} (e : τ → Int → σ) (g : τ → Int → τ) (out : τ → Option ρ) (s0 : τ) (J : τ → Nat → Prop) (h0 : J s0 0)
    (hstep : ∀ (rec : σ → Option ρ) (s : τ) (y : Int) (i : Nat), y = (i : Int) + 1 → i < 99 → J s i → J (g s y) (i + 1) ∧ f rec (e s y) = rec (e (g s y) (i64 (y + 1))))
    (hfin : ∀ (rec : σ → Option ρ) (s : τ), J s 99 → f rec (e s 100) = out s) : am FU f (e s0 1) = out (yo.foldl g s0) := by
  refine H1 (f := f) e (fun s i => s = (yo.take i).foldl g s0 ∧ J s i) (fun o => o = out (yo.foldl g s0)) ?_ ?_ s0 ⟨by simp, h0⟩
  · rintro rec s i hi ⟨rfl, hJ⟩
    right
    have hy : yo[i]? = some ((i : Int) + 1) := by unfold yo; rw [List.getElem?_map, List.getElem?_range hi]; rfl
    obtain ⟨h1, h2⟩ := hstep rec _ ((i : Int) + 1) i rfl hi hJ
    exact ⟨_, h2, (Mo hy).symm, h1⟩
  · rintro rec s ⟨rfl, hJ⟩
    rw [hfin _ _ hJ, show yo.take 99 = yo from List.take_of_length_le (by rw [yw]; omega)]
theorem ac1 {f : (Int → Option Bool) → Int → Option Bool} (p : Int → Bool)
    (hstep : ∀ (rec : Int → Option Bool) (y : Int), 1 ≤ y → y ≤ 99 → f rec y = if p y = true then some true else rec (i64 (y + 1)))
    (hfin : ∀ rec : Int → Option Bool, f rec 100 = some false) : am FU f 1 = some (yo.any p) := by
  refine H1 (f := f) (fun (_ : Unit) i => i) (fun _ i => ∀ y ∈ yo.take i, p y = false) (fun o => o = some (yo.any p)) ?_ ?_ () (by simp)
  · rintro rec s i hi h
    have hy : yo[i]? = some ((i : Int) + 1) := by unfold yo; rw [List.getElem?_map, List.getElem?_range hi]; rfl
    rw [hstep _ _ (by omega) (by omega)]
    by_cases hc : p ((i : Int) + 1) = true
    · left
      rw [if_pos hc, List.any_eq_true.2 ⟨_, List.mem_of_getElem? hy, hc⟩]
    · right
      rw [if_neg hc]
      refine ⟨(), rfl, fun z hz => ?_⟩
      rw [j3 hy] at hz
      rcases List.mem_append.1 hz with hz | hz
      · exact h z hz
      · rw [List.mem_singleton] at hz; subst hz; simpa using hc
  · intro rec s h
    rw [show yo.take 99 = yo from List.take_of_length_le (by rw [yw]; omega)] at h
    rw [hfin]
    have : yo.any p = false := by rw [List.any_eq_false]; intro y hy; simp [h y hy]
    rw [this]
theorem Py (p : Int → Bool) : ∀ (q : List Int) (k : Int), (q.foldl (fun k x => if p x = true then 2 else k) k) = if q.any p = true then 2 else k
  | [], k => by simp
  | x :: q, k => by
    rw [List.foldl_cons, Py p q, List.any_cons]
    cases p x <;> cases q.any p <;> simp
def stA (F own : List api_Fact) (a d e : Int) (s : List Heir × Ar 100 Bool) (y : Int) : List Heir × Ar 100 Bool :=
  if (((y != a) && decide (aah own y e > 0)) && ii (ofP F y) d) = true then (s.1 ++ [(⟨y, 1, aah own y e⟩ : Heir)], Ar.set s.2 y true) else s
def a5n (F : List api_Fact) (c d x : Int) : Bool := ((x != c) && ii (ofP F x) d) && (ofP F x).any (raB c d)
def stB (F own : List api_Fact) (a d : Int) (ar : Ar 100 Bool) (s : List Heir) (y : Int) : List Heir :=
  if ((((y == a) || (av ar.l y).getD false) || !own.any (raB y d)) || !ii (ofP F y) d) = true then s else s ++ [(⟨y, if yo.any (a5n F y d) = true then 2 else 3, 0⟩ : Heir)]
def aho (F own : List api_Fact) (a d e : Int) : List Heir :=
  let s := yo.foldl (stA F own a d e) ([], (arZ 100 false : Ar 100 Bool))
  yo.foldl (stB F own a d s.2) s.1
def hrs (F : List api_Fact) (a d : Int) : List Heir :=
  if ((((decide (a < 1) || decide (a > 99)) || decide (d < 0)) || decide (d > 73048)) || ii (ofP F a) d) = true then [] else
    (aho F (ofP F a) a d (Fe (ofP F a)).1).take 12
theorem a94 (F : List api_Fact) (a d : Int) : (hrs F a d).length ≤ 12 := by
  unfold hrs
  split
  · simp
  · rw [List.length_take]; omega
theorem X8 (ar : Ar 100 Bool) {y : Int} (h1 : 1 ≤ y) (h2 : y ≤ 99) : av ar.l y = some ((av ar.l y).getD false) := by
  obtain ⟨i, rfl⟩ : ∃ i : Nat, y = (i : Int) := ⟨y.toNat, by omega⟩
  rw [p7, List.getElem?_eq_getElem (by rw [ar.h]; omega)]
  rfl
theorem a9t (h : List Heir) (hl : h.length ≤ 1000) : fp h 0 (min (h.length : Int) 12) = some (h.take 12) := by
  rw [rn (by omega) (by omega) (by omega)]
  congr 1
  simp only [Int.toNat_zero, List.drop_zero, Nat.sub_zero]
  rw [show (min (h.length : Int) 12).toNat = min h.length 12 by omega, List.take_eq_take_iff]
  omega
section
variable {F : List api_Fact} (hF : F.length ≤ 2 ^ 20)
include hF
theorem Hr (p d : Int) : jb F p d = some (ii (ofP F p) d) := by
  unfold jb
  rw [Ly F p (by omega), Option.bind_some, Dx _ (by have := yb F p; omega), Option.bind_some, dl, Option.bind_some]
  rfl
theorem a1d (c d : Int) (h0 : 0 ≤ d) (h1 : d ≤ 73048) : ql F c d = some (yo.any (a5n F c d)) := by
  unfold ql
  refine ac1 (f := mi c F d) (a5n F c d) (fun rec y h2 h3 => ?_) fun rec => ?_
  · have hq := yb F y
    have hr := Ua (ofP F y) 10 c
    unfold mi
    rw [if_pos (show (decide (y ≤ 99)) = true by simp; omega)]
    simp only [Hr hF, Ly F y (by omega : F.length ≤ 2 ^ 30), N9 (ofP F y) 10 c (by omega), E0 _ d (by omega : (Ws (ofP F y) 10 c).length ≤ 2 ^ 30), Option.bind_some, bw, a3o]
    have e : (decide (0 ≤ d) && decide (d ≤ 73048)) = true := by simp; omega
    unfold a5n
    rw [e, Bool.true_and]
    cases ((y != c) && ii (ofP F y) d) <;> simp
  · unfold mi
    rw [if_neg (by simp)]
theorem Yh (a d e : Int) (v : Bool) (h0 : 0 ≤ d) (h1 : d ≤ 73048) : am FU (g8 (e, v) a d) (F, ofP F a, [], (arZ 100 false : Ar 100 Bool), 1) = some ((aho F (ofP F a) a d e).take 12) := by
  have hq := yb F a
  rw [Em (f := g8 (e, v) a d) (fun (s : List Heir × Ar 100 Bool) i => (F, ofP F a, s.1, s.2, i)) (stA F (ofP F a) a d e) (fun s => some ((yo.foldl (stB F (ofP F a) a d s.2) s.1).take 12)) ([], (arZ 100 false : Ar 100 Bool)) (fun s i => s.1.length ≤ i) (by simp) (fun rec s y i hy hi hJ => ?_) fun rec s hJ => ?_]
  · rfl
  · obtain ⟨_, q, m1, m2⟩ := My F a y e (by omega)
    unfold g8 stA
    dsimp only
    rw [if_pos (show (decide (y ≤ 99)) = true by simp; omega)]
    simp only [N9 (ofP F a) 14 y (by omega), m1, m2, Hr hF, Option.bind_some, bw]
    by_cases hc : (((y != a) && decide (aah (ofP F a) y e > 0)) && ii (ofP F y) d) = true
    · rw [if_pos hc, if_pos hc, X8 s.2 (by omega) (by omega), Option.bind_some, Option.bind_some, de (by simp; omega), Option.bind_some]
      exact ⟨by simp; omega, rfl⟩
    · rw [if_neg hc, if_neg hc]
      exact ⟨by omega, rfl⟩
  · unfold g8
    dsimp only
    rw [if_neg (by simp)]
    refine Em (f := jq a d) (fun (h : List Heir) i => (F, ofP F a, h, s.2, i)) (stB F (ofP F a) a d s.2) (fun h => some (h.take 12)) s.1 (fun h i => h.length ≤ 99 + i) hJ (fun rec h y i hy hi hJ => ?_) fun rec h hJ => ?_
    · have hr := Ua (ofP F a) 10 y
      have ed : (decide (0 ≤ d) && decide (d ≤ 73048)) = true := by simp; omega
      unfold jq
      dsimp only
      rw [if_pos (show (decide (y ≤ 99)) = true by simp; omega), X8 s.2 (by omega) (by omega)]
      simp only [Option.bind_some, dl, N9 (ofP F a) 10 y (by omega), E0 _ d (by omega : (Ws (ofP F a) 10 y).length ≤ 2 ^ 30), a3o, Hr hF, oy, ed, Bool.true_and, Bool.true_or, if_true, Option.getD_some]
      unfold stB
      cases ((y == a) || (av s.2.l y).getD false)
      · simp only [Bool.false_or, Bool.false_eq_true, if_false]
        cases hc : (!(ofP F a).any (raB y d) || !ii (ofP F y) d)
        · simp only [Bool.false_eq_true, if_false]
          unfold nu
          dsimp only
          rw [a1d hF y d h0 h1, Option.bind_some]
          cases yo.any (a5n F y d)
          · simp only [Bool.false_eq_true, if_false]
            rw [de (by simp; omega), Option.bind_some]
            exact ⟨by simp; omega, rfl⟩
          · simp only [if_true]
            rw [de (by simp; omega), Option.bind_some]
            exact ⟨by simp; omega, rfl⟩
        · simp only [if_true]
          exact ⟨by omega, trivial⟩
      · simp only [Bool.true_or, if_true]
        exact ⟨by omega, trivial⟩
    · unfold jq
      dsimp only
      rw [if_neg (by simp), a9t h (by omega), Option.bind_some]
theorem Ts (a d e : Int) (v : Bool) (ha : ii (ofP F a) d = false) : am FU (iy a (e, v) d) (F, [], (arZ 100 false : Ar 100 Bool), 1) = some ((aho F (ofP F a) a d e).take 12) := by
  have hq := yb F a
  rw [Em (f := iy a (e, v) d) (fun (s : List Heir × Ar 100 Bool) i => (F, s.1, s.2, i)) (stA F (ofP F a) a d e) (fun s => some ((yo.foldl (stB F (ofP F a) a d s.2) s.1).take 12)) ([], (arZ 100 false : Ar 100 Bool)) (fun s i => s.1.length ≤ i) (by simp) (fun rec s y i hy hi hJ => ?_) fun rec s hJ => ?_]
  · rfl
  · obtain ⟨m1, _⟩ := My F a y e (by omega)
    unfold iy stA
    dsimp only
    rw [if_pos (show (decide (y ≤ 99)) = true by simp; omega)]
    simp only [m1, A4 F _ _ (by omega : F.length ≤ 2 ^ 30), Option.bind_some, bw]
    by_cases hc : (((y != a) && decide (aah (ofP F a) y e > 0)) && ii (ofP F y) d) = true
    · rw [if_pos hc, if_pos hc, X8 s.2 (by omega) (by omega), Option.bind_some, Option.bind_some, de (by simp; omega), Option.bind_some]
      exact ⟨by simp; omega, rfl⟩
    · rw [if_neg hc, if_neg hc]
      exact ⟨by omega, rfl⟩
  · unfold iy
    dsimp only
    rw [if_neg (by simp)]
    refine Em (f := lf a d) (fun (h : List Heir) i => (F, h, s.2, i)) (stB F (ofP F a) a d s.2) (fun h => some (h.take 12)) s.1 (fun h i => h.length ≤ 99 + i) hJ (fun rec h y i hy hi hJ => ?_) fun rec h hJ => ?_
    · unfold lf
      dsimp only
      rw [if_pos (show (decide (y ≤ 99)) = true by simp; omega), X8 s.2 (by omega) (by omega)]
      simp only [Option.bind_some, dl, A4 F _ _ (by omega : F.length ≤ 2 ^ 30), Ez F _ _ _ (by omega : F.length ≤ 2 ^ 30), Option.getD_some]
      have ec : ((((y == a) || (av s.2.l y).getD false) || !ii (ofP F y) d) || !(ofP F a).any (raB y d)) = ((((y == a) || (av s.2.l y).getD false) || !(ofP F a).any (raB y d)) || !ii (ofP F y) d) := by
        rw [Bool.or_assoc, Bool.or_assoc _ (!(ofP F a).any (raB y d)), Bool.or_comm (!ii (ofP F y) d)]
      rw [ec]
      unfold stB
      cases hc : ((((y == a) || (av s.2.l y).getD false) || !(ofP F a).any (raB y d)) || !ii (ofP F y) d)
      · simp only [Bool.false_eq_true, if_false]
        rw [Em (f := lc a (F, h, s.2, y) d rec) (fun (k : Int) i => (F, h, s.2, k, i)) (fun k x => if a5n F y d x = true then 2 else k) (fun k => rec (F, h ++ [(⟨y, k, 0⟩ : Heir)], s.2, i64 (y + 1))) 3 (fun _ _ => True) trivial (fun rec2 k x j hx hj _ => ⟨trivial, ?_⟩) fun rec2 k _ => ?_]
        · rw [Py]
          exact ⟨by simp; omega, rfl⟩
        · unfold lc
          dsimp only
          rw [if_pos (show (decide (x ≤ 99)) = true by simp; omega)]
          simp only [A4 F _ _ (by omega : F.length ≤ 2 ^ 30), Ez F _ _ _ (by omega : F.length ≤ 2 ^ 30), Option.bind_some, bw]
          have ex : ((((x != a) && (x != y)) && ii (ofP F x) d) && (ofP F x).any (raB y d)) = a5n F y d x := by
            unfold a5n
            by_cases hxa : x = a
            · subst hxa; rw [ha]; simp
            · have : (x != a) = true := by simpa using hxa
              rw [this, Bool.true_and]
          rw [ex]
          cases a5n F y d x <;> simp
        · unfold lc
          dsimp only
          rw [if_neg (by simp), de (by simp; omega), Option.bind_some]
      · simp only [if_true]
        exact ⟨by omega, trivial⟩
    · unfold lf
      dsimp only
      rw [if_neg (by simp), a9t h (by omega), Option.bind_some]
end
theorem a8q {l : List api_Fact} (hl : l.length ≤ 2 ^ 20) (a d : Int) : jn (wb l) a d = some (hrs (fs l) a d) := by
  have hF := a2d hl
  have hq := yb (fs l) a
  unfold jn hrs
  simp only [dl, Option.bind_some]
  cases hg : (((decide (a < 1) || decide (a > 99)) || decide (d < 0)) || decide (d > 73048))
  · rw [if_neg (by simp), Ey _ (Bv hl), Option.bind_some, Px, Cy _ (by have := Bv hl; omega), Option.bind_some]
    show (ro (fs l) a).bind _ = _
    rw [Ly _ a (by omega), Option.bind_some, Dx _ (by omega), Option.bind_some, Bool.false_or]
    show (if ii (ofP (fs l) a) d = true then _ else _) = _
    cases ha : ii (ofP (fs l) a) d
    · rw [if_neg (by simp), if_neg (by simp)]
      simp at hg
      exact Yh hF a d _ _ (by omega) (by omega)
    · rw [if_pos rfl, if_pos rfl]
  · rw [if_pos rfl, Bool.true_or, if_pos rfl]
theorem a52 {l : List api_Fact} (hl : l.length ≤ 2 ^ 20) (a d : Int) : pc l a d = some (hrs (fs l) a d) := by
  have hF := a2d hl
  have hq := yb (fs l) a
  unfold pc hrs bz
  simp only [dl, bw, Option.bind_some]
  have ec : ((decide (a < 1) || decide (a > 99)) || !(decide (d ≥ 0) && decide (d ≤ 73048))) = (((decide (a < 1) || decide (a > 99)) || decide (d < 0)) || decide (d > 73048)) := by
    have : (!(decide (d ≥ 0) && decide (d ≤ 73048))) = (decide (d < 0) || decide (d > 73048)) := by
      rw [Bool.eq_iff_iff]; simp
    rw [this, ← Bool.or_assoc]
  rw [ec]
  cases hg : (((decide (a < 1) || decide (a > 99)) || decide (d < 0)) || decide (d > 73048))
  · rw [if_neg (by simp), T8 hl, Option.bind_some, a9s _ a (by omega), Option.bind_some, Rw _ (by omega), Option.bind_some, Bool.false_or]
    show (if ii (ofP (fs l) a) d = true then _ else _) = _
    cases ha : ii (ofP (fs l) a) d
    · rw [if_neg (by simp), if_neg (by simp)]
      exact Ts hF a d _ _ ha
    · rw [if_pos rfl, if_pos rfl]
  · rw [if_pos rfl, Bool.true_or, if_pos rfl]
theorem a61 (g : decision_file) (h : List Heir) (hl : h.length ≤ 2 ^ 30) : ∃ n, pe g h = some n ∧ decide (n ≥ 0) = h.any fun y => y.Person == g.person := by
  obtain ⟨n, h1, h2⟩ := uo (f := bt h g) h (fun y => y.Person == g.person) hl (fun rec i y hy => by
    have hi := (List.getElem?_eq_some_iff.1 hy).1
    unfold bt rh
    rw [if_pos (ox hi)]
    simp only [d6 hy, Option.bind_some]) fun rec => by
    unfold bt
    rw [if_neg (jt _)]
  refine ⟨n, ?_, h2⟩
  unfold pe co
  rw [h1, Option.bind_some]
theorem a87 (h : List Heir) (p : Int) (hl : h.length ≤ 2 ^ 30) : ∃ n, uw h p = some n ∧ decide (n ≥ 0) = h.any fun y => y.Person == p := by
  obtain ⟨n, h1, h2⟩ := uo (f := mf h p) h (fun y => y.Person == p) hl (fun rec i y hy => by
    have hi := (List.getElem?_eq_some_iff.1 hy).1
    unfold mf
    rw [if_pos (ox hi)]
    simp only [d6 hy, Option.bind_some]) fun rec => by
    unfold mf
    rw [if_neg (jt _)]
  exact ⟨n, h1, h2⟩
end Go.PL
namespace Go.PL
open Go Go.SX
theorem q_nn {a b : Int} (h0 : 0 ≤ a) (h1 : a ≤ 4611686018427387904) (hb : 0 < b) : Gy a b = some (a / b) := by
  obtain ⟨r, e, h, _⟩ := vq h0 (by omega) hb
  rw [e, h]
theorem acj {a b : Int} (h0 : 0 ≤ a) (hb : 0 < b) : Di a b = some (a % b) := by
  obtain ⟨r, e, h, _⟩ := qf h0 hb
  rw [e, h]
theorem Js {n m : Int} (h0 : 0 < m) (h1 : m ≤ 4611686018427387904) : aa n m = some (n % m) := by
  unfold aa
  rw [F4 (by omega), Option.bind_some]
  have h6 := Int.emod_nonneg n (by omega : m ≠ 0)
  have h7 := Int.emod_lt_of_pos n h0
  have h4 : n.tmod m = n % m ∨ n.tmod m = n % m - m := by
    rw [Int.tmod_eq_emod]
    split
    · left; simp
    · right; omega
  by_cases h : n.tmod m < 0
  · rw [if_pos (by simpa using h), au (by omega) (by omega)]
    congr 1; omega
  · rw [if_neg (by simpa using h)]
    congr 1; omega
def aaa (y mo : Int) : Int := if mo = 2 then (if (y % 4 = 0 ∧ y % 100 ≠ 0) ∨ y % 400 = 0 then 29 else 28) else if mo = 4 ∨ mo = 6 ∨ mo = 9 ∨ mo = 11 then 30 else 31
theorem Zr (y mo : Int) : 28 ≤ aaa y mo ∧ aaa y mo ≤ 31 := by unfold aaa; split <;> split <;> omega
def Dd (m : Nat) : Int := aaa (1900 + ((m / 12 : Nat) : Int)) (((m % 12 : Nat) : Int) + 1)
def S : Nat → Int
  | 0 => 0
  | m + 1 => S m + Dd m
theorem qv (m : Nat) : 28 ≤ Dd m ∧ Dd m ≤ 31 := Zr _ _
theorem ah6 {a b : Nat} (h : a ≤ b) : S a + 28 * ((b : Int) - a) ≤ S b := by
  induction b with
  | zero => have : a = 0 := by omega
            subst this; simp
  | succ b ih =>
    by_cases hab : a ≤ b
    · have := ih hab; have := qv b; simp only [S]; omega
    · have : a = b + 1 := by omega
      subst this; simp
theorem Qu {a b : Nat} (h : a ≤ b) : S a ≤ S b := by have := ah6 h; omega
theorem S_lt {a b : Nat} (h : a < b) : S a < S b := by have := ah6 (Nat.le_of_lt h); omega
theorem Aj : ∀ m : Nat, 0 ≤ S m ∧ S m ≤ 31 * (m : Int)
  | 0 => by simp [S]
  | m + 1 => by have := Aj m; have := qv m; simp only [S]; omega
theorem Ky {y mo : Int} (hy : 0 ≤ y ∧ y ≤ 100000) (hm : 1 ≤ mo ∧ mo ≤ 12) : dm y mo = some (aaa y mo) := by
  unfold dm xq aaa
  simp only [acj hy.1 (by decide : (0 : Int) < 4), acj hy.1 (by decide : (0 : Int) < 100), acj hy.1 (by decide : (0 : Int) < 400), Option.bind_some, bw, dl]
  rw [au (by omega) (by omega)]
  by_cases h2 : mo = 2
  · subst h2
    simp only [beq_self_eq_true, if_true, Option.bind_some, Bool.true_and]
    by_cases hl : (y % 4 = 0 ∧ y % 100 ≠ 0) ∨ y % 400 = 0
    · rw [if_pos hl, if_pos (by simp; simpa using hl)]
    · rw [if_neg hl, if_neg (by simp; simpa using hl)]; rfl
  · have : (mo == 2) = false := by simpa using h2
    rw [this, Bool.false_and, if_neg (by simp), if_neg h2]
    have hc : mo = 1 ∨ mo = 3 ∨ mo = 4 ∨ mo = 5 ∨ mo = 6 ∨ mo = 7 ∨ mo = 8 ∨ mo = 9 ∨ mo = 10 ∨ mo = 11 ∨ mo = 12 := by omega
    rcases hc with h | h | h | h | h | h | h | h | h | h | h <;> subst h <;> rfl
theorem Zn {y mo : Int} (hy : 0 ≤ y ∧ y ≤ 100000) (hm : 1 ≤ mo ∧ mo ≤ 12) : dr y mo = some (aaa y mo) := by
  unfold dr oe aaa
  simp only [acj hy.1 (by decide : (0 : Int) < 4), acj hy.1 (by decide : (0 : Int) < 100), acj hy.1 (by decide : (0 : Int) < 400), Option.bind_some, bw, dl]
  by_cases h2 : mo = 2
  · subst h2
    simp only [beq_self_eq_true, if_true]
    by_cases hl : (y % 4 = 0 ∧ y % 100 ≠ 0) ∨ y % 400 = 0
    · rw [if_pos hl, if_pos (by simp; omega)]
    · rw [if_neg hl, if_neg (by simp; omega)]
  · have : (mo == 2) = false := by simpa using h2
    simp only [this, Bool.false_eq_true, if_false, if_neg h2]
    have hc : mo = 1 ∨ mo = 3 ∨ mo = 4 ∨ mo = 5 ∨ mo = 6 ∨ mo = 7 ∨ mo = 8 ∨ mo = 9 ∨ mo = 10 ∨ mo = 11 ∨ mo = 12 := by omega
    rcases hc with h | h | h | h | h | h | h | h | h | h | h <;> subst h <;> rfl
theorem Jp (m : Nat) (hm : m ≤ 100000) : i64 (1900 + (m : Int) / 12) = 1900 + ((m / 12 : Nat) : Int) ∧ i64 ((m : Int) % 12 + 1) = ((m % 12 : Nat) : Int) + 1 := by
  rw [au (by omega) (by omega), au (by omega) (by omega)]
  omega
theorem Xa (m : Nat) (hm : m ≤ 100000) : dr (i64 (1900 + (m : Int) / 12)) (i64 ((m : Int) % 12 + 1)) = some (Dd m) := by
  obtain ⟨h1, h2⟩ := Jp m hm
  rw [h1, h2, Zn (by omega) (by omega)]; rfl
theorem qm (m : Nat) (hm : m ≤ 100000) : Gy (m : Int) 12 = some ((m : Int) / 12) := q_nn (by omega) (by omega) (by omega)
theorem rm (m : Nat) : Di (m : Int) 12 = some ((m : Int) % 12) := acj (by omega) (by omega)
theorem a3g (m : Nat) (hm : m ≤ 100000) : ff (m : Int) = some (S m) := by
  unfold ff
  obtain ⟨r, h1, h2⟩ := ko (f := my (m : Int)) (fun s => ∃ x : Nat, s = (S x, (x : Int)) ∧ x ≤ m) (fun s => m - s.2.toNat) (fun r => r = S m) (s := (0, 0)) ⟨0, rfl, Nat.zero_le _⟩ (by show m - _ < _; omega) (by
    rintro s rec ⟨x, rfl, hx⟩
    unfold my
    dsimp only
    by_cases h : x < m
    · right
      have hb := Aj x
      have hl := qv x
      rw [if_pos (by simp; omega), qm x (by omega), Option.bind_some, rm, Option.bind_some, Xa x (by omega), Option.bind_some, au (n := S x + Dd x) (by omega) (by omega), au (n := (x : Int) + 1) (by omega) (by omega)]
      exact ⟨(S (x + 1), ((x + 1 : Nat) : Int)), by simp [S], ⟨x + 1, rfl, h⟩, by simp only [Int.toNat_natCast]; omega⟩
    · left
      have : x = m := by omega
      subst this
      rw [if_neg (by simp)]
      exact ⟨_, rfl, rfl⟩)
  rw [h1, h2]
theorem Vo : ∀ (n : Nat) {d : Int}, 0 ≤ d → d < S n → ∃ m : Nat, m < n ∧ S m ≤ d ∧ d < S (m + 1)
  | 0, d, h0, h1 => by simp [S] at h1; omega
  | n + 1, d, h0, h1 => by
    by_cases h : d < S n
    · obtain ⟨m, a, b, c⟩ := Vo n h0 h; exact ⟨m, by omega, b, c⟩
    · exact ⟨n, by omega, by omega, h1⟩
theorem Up {d : Int} (h0 : 0 ≤ d) {m : Nat} (hm : m ≤ 2400) (h1 : S m ≤ d) (h2 : d < S (m + 1)) : kb d = some ((m : Int), d - S m) := by
  unfold kb
  have hbm := Aj (m + 1)
  obtain ⟨r, h3, h4⟩ := ko (f := ov) (fun s => ∃ x : Nat, s = (d - S x, (x : Int)) ∧ x ≤ m) (fun s => m + 1 - s.2.toNat) (fun r => r = ((m : Int), d - S m)) (s := (d, 0)) ⟨0, by simp [S], Nat.zero_le _⟩ (by show m + 1 - _ < _; omega) (by
    rintro s rec ⟨x, rfl, hx⟩
    unfold ov
    dsimp only
    have hb := Aj x
    have hl := qv x
    rw [qm x (by omega), Option.bind_some, rm, Option.bind_some, Xa x (by omega), Option.bind_some]
    by_cases h : x < m
    · right
      have hS := Qu (show x + 1 ≤ m by omega)
      have e : S (x + 1) = S x + Dd x := rfl
      rw [if_neg (by simp; omega), au (n := d - S x - Dd x) (by omega) (by omega), au (n := (x : Int) + 1) (by omega) (by omega)]
      exact ⟨(d - S (x + 1), ((x + 1 : Nat) : Int)), by rw [e]; congr 1; rw [show d - S x - Dd x = d - (S x + Dd x) by omega]; simp, ⟨x + 1, rfl, h⟩, by simp only [Int.toNat_natCast]; omega⟩
    · left
      have : x = m := by omega
      subst this
      have e : S (x + 1) = S x + Dd x := rfl
      rw [if_pos (by simp; omega)]
      exact ⟨_, rfl, rfl⟩)
  rw [h3, h4]
def y12 (n : Nat) : Int := Dd (12 * n) + Dd (12 * n + 1) + Dd (12 * n + 2) + Dd (12 * n + 3) + Dd (12 * n + 4) + Dd (12 * n + 5) + Dd (12 * n + 6) + Dd (12 * n + 7) + Dd (12 * n + 8) + Dd (12 * n + 9) + Dd (12 * n + 10) + Dd (12 * n + 11)
theorem Ka (n : Nat) : S (12 * (n + 1)) = S (12 * n) + y12 n := by
  rw [show 12 * (n + 1) = 12 * n + 12 by omega]
  simp only [S, y12]
  omega
def ag9 : Nat → Nat → Int → Bool
  | 0, _, _ => true
  | k + 1, n, s => (g0 (1900 + (n : Int)) == some s) && (ka (1900 + (n : Int)) == some (y12 n)) && ag9 k (n + 1) (s + y12 n)
theorem a46 : ∀ (k n : Nat), ag9 k n (S (12 * n)) = true → ∀ j, n ≤ j → j < n + k → g0 (1900 + (j : Int)) = some (S (12 * j)) ∧ ka (1900 + (j : Int)) = some (y12 j)
  | 0, n, _, j, h1, h2 => by omega
  | k + 1, n, h, j, h1, h2 => by
    simp only [ag9, Bool.and_eq_true, beq_iff_eq] at h
    by_cases hj : j = n
    · subst hj; exact h.1
    · rw [← Ka] at h
      exact a46 k (n + 1) h.2 j (by omega) (by omega)
theorem Zl : ag9 201 0 0 = true := by kernel_rfl
theorem Pj {n : Nat} (hn : n ≤ 200) : g0 (1900 + (n : Int)) = some (S (12 * n)) ∧ ka (1900 + (n : Int)) = some (y12 n) := a46 201 0 Zl n (Nat.zero_le _) (by omega)
theorem a23 (n : Nat) : 336 ≤ y12 n ∧ y12 n ≤ 372 := by
  have := ah6 (show 12 * n ≤ 12 * (n + 1) by omega)
  have h := Ka n
  have e : ∀ k, Dd k ≤ 31 := fun k => (qv k).2
  have := e (12 * n); have := e (12 * n + 1); have := e (12 * n + 2); have := e (12 * n + 3); have := e (12 * n + 4); have := e (12 * n + 5)
  have := e (12 * n + 6); have := e (12 * n + 7); have := e (12 * n + 8); have := e (12 * n + 9); have := e (12 * n + 10); have := e (12 * n + 11)
  unfold y12 at *
  omega
def sumY : Nat → Int
  | 0 => 0
  | n + 1 => sumY n + y12 n
theorem aal : ∀ n, S (12 * n) = sumY n
  | 0 => rfl
  | n + 1 => by rw [Ka, aal n]; rfl
theorem a2z : S 2400 = 73049 := by
  have h := aal 200
  rw [show 12 * 200 = 2400 from rfl] at h
  exact h.trans (by kernel_rfl)
def a68 : Nat → Nat → Int → Bool
  | 0, _, _ => true
  | k + 1, n, s => decide (s ≤ 366 * (n : Int)) && a68 k (n + 1) (s + y12 n)
theorem Xq : ∀ (k n : Nat), a68 k n (S (12 * n)) = true → ∀ j, n ≤ j → j < n + k → S (12 * j) ≤ 366 * (j : Int)
  | 0, n, _, j, h1, h2 => by omega
  | k + 1, n, h, j, h1, h2 => by
    simp only [a68, Bool.and_eq_true, decide_eq_true_eq] at h
    by_cases hj : j = n
    · subst hj; exact h.1
    · rw [← Ka] at h
      exact Xq k (n + 1) h.2 j (by omega) (by omega)
theorem Uq : a68 201 0 0 = true := by kernel_rfl
theorem ahf {n : Nat} (hn : n ≤ 200) : S (12 * n) ≤ 366 * (n : Int) := Xq 201 0 Uq n (Nat.zero_le _) (by omega)
theorem Pn {n k : Nat} (hn : n ≤ 1000) (hk : k < 12) : dm (1900 + (n : Int)) ((k : Int) + 1) = some (Dd (12 * n + k)) := by
  rw [Ky (by omega) (by omega)]
  unfold Dd
  rw [show (12 * n + k) / 12 = n by omega, show (12 * n + k) % 12 = k by omega]
theorem abt {n k : Nat} (hn : n < 200) (hk : k < 12) : q9 (1900 + (n : Int)) ((k : Int) + 1) 1 = some (S (12 * n + k), true) := by
  unfold q9
  have hb := Aj (12 * n)
  have hl := qv (12 * n + k)
  rw [Pn (by omega) hk, (Pj (n := n) (by omega)).1]
  have e1 : (((((decide (1900 + (n : Int) < 1900) || decide (1900 + (n : Int) > 2099)) || decide ((k : Int) + 1 < 1)) || decide ((k : Int) + 1 > 12)) || decide ((1 : Int) < 1)) || decide ((1 : Int) > Dd (12 * n + k))) = false := by
    simp only [Bool.or_eq_false_iff, decide_eq_false_iff_not]; omega
  simp only [Option.bind_some, dl, e1, Bool.false_eq_true, if_false]
  rw [au (n := S (12 * n) + 1) (by omega) (by omega), au (by omega) (by omega)]
  obtain ⟨r, h1, h2⟩ := ko (f := yf ((k : Int) + 1) (1900 + (n : Int))) (fun s => ∃ x : Nat, s = (S (12 * n + x), (x : Int) + 1) ∧ x ≤ k) (fun s => k + 1 - s.2.toNat) (fun r => r = (S (12 * n + k), true)) (s := (S (12 * n) + 1 - 1, 1)) ⟨0, by simp, Nat.zero_le _⟩ (by show k + 1 - _ < _; omega) (by
    rintro s rec ⟨x, rfl, hx⟩
    unfold yf
    dsimp only
    by_cases h : x < k
    · right
      have hb := Aj (12 * n + x)
      have hl := qv (12 * n + x)
      rw [if_pos (by simp; omega), Pn (by omega) (by omega), Option.bind_some, au (n := S (12 * n + x) + Dd (12 * n + x)) (by omega) (by omega), au (n := (x : Int) + 1 + 1) (by omega) (by omega)]
      exact ⟨(S (12 * n + (x + 1)), ((x + 1 : Nat) : Int) + 1), rfl, ⟨x + 1, rfl, h⟩, by simp only []; omega⟩
    · left
      have : x = k := by omega
      subst this
      rw [if_neg (by simp)]
      exact ⟨_, rfl, rfl⟩)
  rw [h1, h2]
theorem a8p {m : Nat} (hm : m < 2400) : q9 (1900 + ((m / 12 : Nat) : Int)) (((m % 12 : Nat) : Int) + 1) 1 = some (S m, true) := by
  have hd := abt (n := m / 12) (k := m % 12) (by omega) (Nat.mod_lt _ (by omega))
  rwa [Nat.div_add_mod] at hd
theorem ah1 {m : Nat} (hm : m < 2400) : kg (m : Int) = some true := by
  unfold kg
  have e1 : (decide ((m : Int) ≥ 0) && decide ((m : Int) ≤ 2399)) = true := by rw [Bool.and_eq_true]; exact ⟨decide_eq_true (by omega), decide_eq_true (by omega)⟩
  rw [bw, e1]; rfl
theorem Cq {m : Nat} (hm : m < 2400) : dy (m : Int) = some (S m, true) := by
  have hd := a8p hm
  obtain ⟨h1, h2⟩ := Jp m (by omega)
  rw [← h1, ← h2] at hd
  unfold dy
  rw [ah1 hm, qm m (by omega), rm]
  show (q9 _ _ 1).bind _ = _
  rw [hd]; rfl
theorem Dt {m : Int} (hm : ¬ (0 ≤ m ∧ m ≤ 2399)) : dy m = some (0, false) := by
  unfold dy kg
  have e1 : (decide (m ≥ 0) && decide (m ≤ 2399)) = false := by
    rw [Bool.and_eq_false_iff, decide_eq_false_iff_not, decide_eq_false_iff_not]; omega
  simp only [bw, Option.bind_some, e1, Bool.not_false, if_true]
theorem a70 {d : Int} {m : Nat} (hm : m < 2400) (h1 : S m ≤ d) (h2 : d < S (m + 1)) : tm d = some (1900 + ((m / 12 : Nat) : Int), ((m % 12 : Nat) : Int) + 1, d - S m + 1, true) := by
  have hS := Qu (show m + 1 ≤ 2400 by omega)
  have h24 := a2z
  have hb0 := Aj m
  have hv : (decide (d ≥ 0) && decide (d ≤ 73048)) = true := by rw [Bool.and_eq_true]; exact ⟨decide_eq_true (by omega), decide_eq_true (by omega)⟩
  unfold tm vo
  simp only [bw, hv, Option.bind_some, Bool.not_true, Bool.false_eq_true, if_false]
  rw [q_nn (by omega) (by omega) (by omega), Option.bind_some, au (by omega) (by omega)]
  have hn0 : (d / 366).toNat ≤ 199 := by omega
  have hs0 := ahf (n := (d / 366).toNat) (by omega)
  obtain ⟨r, h3, h4⟩ := ko (f := xb d) (fun s => ∃ n : Nat, s = 1900 + (n : Int) ∧ n ≤ 199 ∧ S (12 * n) ≤ d) (fun s => 3000 - s.toNat) (fun r => r = (1900 + ((m / 12 : Nat) : Int), ((m % 12 : Nat) : Int) + 1, d - S m + 1, true)) (s := 1900 + d / 366) ⟨(d / 366).toNat, by omega, hn0, by omega⟩ (by show 3000 - _ < _; omega) (by
    rintro s rec ⟨n, rfl, hn, hsn⟩
    have hb := Aj (12 * n)
    have hy := a23 n
    unfold xb
    rw [(Pj (n := n) (by omega)).1, (Pj (n := n) (by omega)).2]
    simp only [Option.bind_some]
    rw [au (n := S (12 * n) + y12 n) (by omega) (by omega)]
    by_cases h : S (12 * n) + y12 n ≤ d
    · right
      have hlt : n < 199 := by
        by_cases h9 : n = 199
        · subst h9
          have := Ka 199
          rw [show 12 * (199 + 1) = 2400 from rfl] at this
          omega
        · omega
      rw [if_pos (by simpa using h), au (n := 1900 + (n : Int) + 1) (by omega) (by omega)]
      have e4 : 1900 + (n : Int) + 1 = 1900 + ((n + 1 : Nat) : Int) := by omega
      rw [e4]
      exact ⟨_, rfl, ⟨n + 1, rfl, by omega, by rw [Ka]; exact h⟩, by omega⟩
    · left
      rw [if_neg (by simpa using h), au (n := d - S (12 * n)) (by omega) (by omega)]
      have hnm : m / 12 = n := by
        have h5 : 12 * n ≤ m := by
          rcases Nat.lt_or_ge m (12 * n) with h6 | h6
          · have := Qu (show m + 1 ≤ 12 * n by omega); omega
          · exact h6
        have h7 : m < 12 * (n + 1) := by
          rcases Nat.lt_or_ge m (12 * (n + 1)) with h6 | h6
          · exact h6
          · have := Qu h6; rw [Ka] at this; omega
        omega
      refine ko (f := xa (1900 + (n : Int))) (fun s => ∃ x : Nat, s = ((x : Int) + 1, d - S (12 * n + x)) ∧ x ≤ m % 12) (fun s => 13 - s.1.toNat) _ ⟨0, rfl, Nat.zero_le _⟩ (by show 13 - _ < _; omega) ?_
      rintro s rec2 ⟨x, rfl, hx⟩
      unfold xa
      dsimp only
      have hb2 := Aj (12 * n + x)
      have hl := qv (12 * n + x)
      rw [Pn (by omega) (by omega)]
      simp only [Option.bind_some]
      have e : S (12 * n + x + 1) = S (12 * n + x) + Dd (12 * n + x) := rfl
      by_cases h8 : x < m % 12
      · right
        have := Qu (show 12 * n + x + 1 ≤ m by omega)
        rw [if_pos (by simp; omega), au (n := (x : Int) + 1 + 1) (by omega) (by omega), au (n := d - S (12 * n + x) - Dd (12 * n + x)) (by omega) (by omega)]
        have e3 : d - S (12 * n + x) - Dd (12 * n + x) = d - S (12 * n + x + 1) := by rw [e]; omega
        have e4 : (x : Int) + 1 + 1 = ((x + 1 : Nat) : Int) + 1 := by omega
        rw [e3, e4]
        exact ⟨_, rfl, ⟨x + 1, by rw [Nat.add_assoc], h8⟩, by simp only []; omega⟩
      · left
        have hxm : 12 * n + x = m := by omega
        have hx12 : m % 12 = x := by omega
        rw [hxm] at e hl hb2 ⊢
        rw [if_neg (by simp; omega), au (n := d - S m + 1) (by omega) (by omega)]
        exact ⟨_, rfl, by rw [hnm, hx12]⟩)
  rw [h3, h4]
theorem a1b {d : Int} {m : Nat} (hm : m < 2400) (h1 : S m ≤ d) (h2 : d < S (m + 1)) : om d = some (m : Int) := by
  unfold om
  rw [a70 hm h1 h2]
  simp only [Option.bind_some, Bool.not_true, Bool.false_eq_true, if_false]
  rw [au (n := 1900 + ((m / 12 : Nat) : Int) - 1900) (by omega) (by omega), au (n := 12 * (1900 + ((m / 12 : Nat) : Int) - 1900)) (by omega) (by omega), au (n := 12 * (1900 + ((m / 12 : Nat) : Int) - 1900) + (((m % 12 : Nat) : Int) + 1)) (by omega) (by omega), au (by omega) (by omega)]
  congr 1; omega
theorem N8 {d : Int} (hd : ¬ (0 ≤ d ∧ d ≤ 73048)) : om d = some (-1) := by
  unfold om tm vo
  have e1 : (decide (d ≥ 0) && decide (d ≤ 73048)) = false := by
    rw [Bool.and_eq_false_iff, decide_eq_false_iff_not, decide_eq_false_iff_not]; omega
  simp only [bw, e1, Option.bind_some, Bool.not_false, if_true]
end Go.PL
namespace Go.PL
open Go Go.SX
def a3y (d : Int) (r : Int × Bool) : Prop :=
  (r = (0, false) ∧ (¬ (0 ≤ d ∧ d ≤ 73048) ∨ S 2399 < d)) ∨ ∃ m : Nat, m < 2400 ∧ r = ((m : Int), true) ∧ 0 ≤ d ∧ d ≤ 73048 ∧ d ≤ S m ∧ (m = 0 ∨ S (m - 1) < d)
theorem Cp {m : Nat} (hm : m < 2400) : eq (m : Int) = some (S m, true) := by
  unfold eq da
  have e1 : (decide ((m : Int) ≥ 0) && decide ((m : Int) ≤ 2399)) = true := by rw [Bool.and_eq_true]; exact ⟨decide_eq_true (by omega), decide_eq_true (by omega)⟩
  rw [bw, e1]
  show (ff (m : Int)).bind _ = _
  rw [a3g m (by omega)]; rfl
theorem aeb (m : Int) : da m = some (decide (m ≥ 0) && decide (m ≤ 2399)) := by
  unfold da; rw [bw]; rfl
theorem a9w (m : Int) : bz m = some (decide (m ≥ 0) && decide (m ≤ 73048)) := by
  unfold bz; rw [bw]; rfl
theorem a1x {d : Int} {m : Nat} (hm : m < 2400) (h0 : 0 ≤ d) (hd : d ≤ 73048) (h1 : S m ≤ d) (h2 : d < S (m + 1)) : na d = some (m : Int) := by
  unfold na
  have hv : (decide (d ≥ 0) && decide (d ≤ 73048)) = true := by rw [Bool.and_eq_true]; exact ⟨decide_eq_true h0, decide_eq_true hd⟩
  rw [a9w, hv]
  show (kb d).bind _ = _
  rw [Up h0 (by omega) h1 h2]; rfl
theorem Dp (c : Claim) : ∃ r, fq c = some r ∧ fx c = some r ∧ a3y c.Day r := by
  by_cases hd : 0 ≤ c.Day ∧ c.Day ≤ 73048
  · have h24 := a2z
    obtain ⟨m, hm, h1, h2⟩ := Vo 2400 hd.1 (by omega)
    have e1 : ¬ (decide ((m : Int) < 0)) = true := by simp
    unfold fq fx
    rw [a1b hm h1 h2, a1x hm hd.1 hd.2 h1 h2, Option.bind_some, Option.bind_some, if_neg e1, if_neg e1, Cq hm, Cp hm, Option.bind_some, Option.bind_some]
    dsimp only
    rw [oy, oy, oy, oy]
    unfold uy q6
    simp only [aeb, Option.bind_some]
    by_cases h3 : S m < c.Day
    · rw [if_pos (decide_eq_true h3), if_pos (decide_eq_true h3), au (n := (m : Int) + 1) (by omega) (by omega)]
      by_cases h4 : m = 2399
      · subst h4
        exact ⟨(0, false), rfl, rfl, .inl ⟨rfl, .inr h3⟩⟩
      · have e2 : decide ((m : Int) + 1 > 2399) = false := by rw [decide_eq_false_iff_not]; omega
        have e3 : (decide ((m : Int) + 1 ≥ 0) && decide ((m : Int) + 1 ≤ 2399)) = true := by rw [Bool.and_eq_true]; exact ⟨decide_eq_true (by omega), decide_eq_true (by omega)⟩
        simp only [e2, e3, Bool.not_true, Bool.false_eq_true, if_false]
        exact ⟨_, rfl, rfl, .inr ⟨m + 1, by omega, by simp, hd.1, hd.2, by omega, .inr (by simpa using h3)⟩⟩
    · have e9 : ¬ (decide (S m < c.Day)) = true := by simpa using h3
      rw [if_neg e9, if_neg e9]
      have e2 : decide ((m : Int) > 2399) = false := by rw [decide_eq_false_iff_not]; omega
      have hvm : (decide ((m : Int) ≥ 0) && decide ((m : Int) ≤ 2399)) = true := by rw [Bool.and_eq_true]; exact ⟨decide_eq_true (by omega), decide_eq_true (by omega)⟩
      simp only [e2, hvm, Bool.not_true, Bool.false_eq_true, if_false]
      refine ⟨_, rfl, rfl, .inr ⟨m, hm, rfl, hd.1, hd.2, by omega, ?_⟩⟩
      by_cases h0 : m = 0
      · exact .inl h0
      · right
        have := S_lt (show m - 1 < m by omega)
        omega
  · have hv : (decide (c.Day ≥ 0) && decide (c.Day ≤ 73048)) = false := by
      rw [Bool.and_eq_false_iff, decide_eq_false_iff_not, decide_eq_false_iff_not]; omega
    unfold fq fx na
    rw [N8 hd, a9w, hv]
    exact ⟨(0, false), rfl, rfl, .inl ⟨rfl, .inl hd⟩⟩
def sg (c : Claim) : Prop := (0 ≤ c.Issuer ∧ c.Issuer ≤ 5) ∧ (1 ≤ c.Number ∧ c.Number ≤ 999) ∧ (1 ≤ c.Person ∧ c.Person ≤ 99) ∧
  (((c.Benefit = 3 ∨ c.Benefit = 4) ∧ 1 ≤ c.Ref ∧ c.Ref ≤ 99 ∧ c.Ref ≠ c.Person) ∨ ((c.Benefit = 1 ∨ c.Benefit = 2 ∨ c.Benefit = 5) ∧ c.Ref = 0))
instance (c : Claim) : Decidable (sg c) := by unfold sg; infer_instance
theorem R1 (c : Claim) : ∃ r, fq c = some r ∧ ij c = some (decide (sg c) && r.2) := by
  obtain ⟨r, h1, _, _⟩ := Dp c
  refine ⟨r, h1, ?_⟩
  unfold ij
  simp only [oy, dl, Option.bind_some]
  unfold vk
  simp only [oy, dl, Option.bind_some]
  unfold qt
  simp only [oy]
  unfold um
  rw [h1]
  simp only [Option.bind_some]
  by_cases a1 : 0 ≤ c.Issuer ∧ c.Issuer ≤ 5 ∧ 1 ≤ c.Number ∧ c.Number ≤ 999 ∧ 1 ≤ c.Person ∧ c.Person ≤ 99
  · rw [if_neg (by simp; omega)]
    by_cases b : c.Benefit = 3 ∨ c.Benefit = 4
    · by_cases a2 : 1 ≤ c.Ref ∧ c.Ref ≤ 99 ∧ c.Ref ≠ c.Person
      · have hok : sg c := ⟨⟨a1.1, a1.2.1⟩, ⟨a1.2.2.1, a1.2.2.2.1⟩, ⟨a1.2.2.2.2.1, a1.2.2.2.2.2⟩, .inl ⟨b, a2⟩⟩
        have e2 : ((decide (c.Ref < 1) || decide (c.Ref > 99)) || (c.Ref == c.Person)) = false := by
          simp only [Bool.or_eq_false_iff, decide_eq_false_iff_not, beq_eq_false_iff_ne]; exact ⟨⟨by omega, by omega⟩, a2.2.2⟩
        rcases b with b | b <;> simp [b, e2, hok]
      · have hok : ¬ sg c := by
          rintro ⟨_, _, _, h | h⟩
          · exact a2 h.2
          · omega
        have e2 : ((decide (c.Ref < 1) || decide (c.Ref > 99)) || (c.Ref == c.Person)) = true := by
          simp only [Bool.or_eq_true, decide_eq_true_eq, beq_iff_eq]; omega
        rcases b with b | b <;> simp [b, e2, hok]
    · have b3 : (c.Benefit == 3) = false := by simp; omega
      have b4 : (c.Benefit == 4) = false := by simp; omega
      simp only [b3, b4, Bool.false_eq_true, if_false]
      by_cases b' : c.Benefit = 1 ∨ c.Benefit = 2 ∨ c.Benefit = 5
      · by_cases a2 : c.Ref = 0
        · have hok : sg c := ⟨⟨a1.1, a1.2.1⟩, ⟨a1.2.2.1, a1.2.2.2.1⟩, ⟨a1.2.2.2.2.1, a1.2.2.2.2.2⟩, .inr ⟨b', a2⟩⟩
          rcases b' with b' | b' | b' <;> simp [b', a2, hok]
        · have hok : ¬ sg c := by
            rintro ⟨_, _, _, h | h⟩
            · omega
            · exact a2 h.2
          rcases b' with b' | b' | b' <;> simp [b', a2, hok]
      · have hok : ¬ sg c := by rintro ⟨_, _, _, h | h⟩ <;> omega
        have b1 : (c.Benefit == 1) = false := by simp; omega
        have b2 : (c.Benefit == 2) = false := by simp; omega
        have b5 : (c.Benefit == 5) = false := by simp; omega
        simp [b1, b2, b5, hok]
  · have hok : ¬ sg c := by rintro ⟨h1, h2, h3, _⟩; omega
    rw [if_pos (by simp; omega)]
    simp [hok]
theorem a4a (c : Claim) : ∃ r, fx c = some r ∧ fy c = some (decide (sg c) && r.2) := by
  obtain ⟨r, _, h1, _⟩ := Dp c
  refine ⟨r, h1, ?_⟩
  unfold fy
  rw [h1]
  simp only [Option.bind_some, dl, bw]
  by_cases hr : r.2 = true
  · rw [hr, Bool.and_true]
    by_cases a1 : 0 ≤ c.Issuer ∧ c.Issuer ≤ 5 ∧ 1 ≤ c.Number ∧ c.Number ≤ 999 ∧ 1 ≤ c.Person ∧ c.Person ≤ 99 ∧ 1 ≤ c.Benefit ∧ c.Benefit ≤ 5
    · rw [if_neg (by simp; omega)]
      by_cases b : c.Benefit = 3 ∨ c.Benefit = 4
      · rw [if_pos (by simpa using b)]
        congr 1
        rw [Bool.eq_iff_iff]
        simp only [Bool.and_eq_true, decide_eq_true_eq, bne_iff_ne]
        unfold sg
        constructor
        · intro h; exact ⟨by omega, by omega, by omega, .inl ⟨b, h.1.1, h.1.2, h.2⟩⟩
        · rintro ⟨_, _, _, h | h⟩
          · exact ⟨⟨h.2.1, h.2.2.1⟩, h.2.2.2⟩
          · omega
      · rw [if_neg (by simpa using b)]
        congr 1
        rw [Bool.eq_iff_iff]
        simp only [beq_iff_eq, decide_eq_true_eq]
        unfold sg
        constructor
        · intro h; exact ⟨by omega, by omega, by omega, .inr ⟨by omega, h⟩⟩
        · rintro ⟨_, _, _, h | h⟩
          · exact absurd h.1 b
          · exact h.2
    · have hok : ¬ sg c := by rintro ⟨h1, h2, h3, h | h⟩ <;> omega
      rw [if_pos (by simp; omega), decide_eq_false hok]
  · have hr : r.2 = false := by simpa using hr
    rw [hr, Bool.and_false, if_pos (by simp)]
theorem D9 (c : Claim) : ∃ v, ij c = some v ∧ fy c = some v := by
  obtain ⟨r, h1, h2⟩ := R1 c
  obtain ⟨r', h3, h4⟩ := a4a c
  obtain ⟨q, h5, h6, _⟩ := Dp c
  rw [h5] at h1; rw [h6] at h3
  cases h1; cases h3
  exact ⟨_, h2, h4⟩
def uf (c : Claim) : Prop := sg c ∧ 35150 ≤ c.Day ∧ c.Day ≤ 36049
theorem afp : 73000 ≤ S 2399 := by
  have h := a2z
  have : S 2400 = S 2399 + Dd 2399 := rfl
  have := qv 2399
  omega
theorem Nx {c : Claim} (h : 0 ≤ c.Day ∧ c.Day ≤ 72000) : ∃ m, fq c = some (m, true) ∧ 0 ≤ m ∧ m ≤ 2399 := by
  obtain ⟨r, h1, _, h2⟩ := Dp c
  have h3 := afp
  rcases h2 with ⟨_, h2 | h2⟩ | ⟨m, hm, h2, _⟩
  · omega
  · omega
  · subst h2; exact ⟨_, h1, by omega, by omega⟩
theorem F9 {c : Claim} (h : uf c) : ij c = some true := by
  obtain ⟨m, h1, _⟩ := Nx (c := c) (by have := h.2; omega)
  obtain ⟨r, h2, h3⟩ := R1 c
  rw [h1] at h2; cases h2
  rw [h3, decide_eq_true h.1]; rfl
theorem a3s (d : List pensionhand_Claim) : Tot (p8 d) fun r => r.length ≤ 6 ∧ ∀ c ∈ r, uf c := by
  have h3 : ∀ n, aa n 3 = some (n % 3) := fun n => Js (by decide) (by decide)
  have h9 : ∀ n, aa n 9 = some (n % 9) := fun n => Js (by decide) (by decide)
  have h4 : ∀ n, aa n 4 = some (n % 4) := fun n => Js (by decide) (by decide)
  have h5 : ∀ n, aa n 5 = some (n % 5) := fun n => Js (by decide) (by decide)
  have h900 : ∀ n, aa n 900 = some (n % 900) := fun n => Js (by decide) (by decide)
  unfold p8
  refine Tot.loop (I := fun v : List Claim × Int => 0 ≤ v.2 ∧ v.2 ≤ 6 ∧ (v.1.length : Int) = v.2 ∧ ∀ c ∈ v.1, uf c) (μ := fun v => (6 - v.2).toNat) ⟨Int.le_refl _, by show (0 : Int) ≤ 6; omega, rfl, by simp⟩ (by show (6 - 0 : Int).toNat < _; omega) ?_
  intro r v hI ih
  obtain ⟨g1, g2, g3, g4⟩ := hI
  unfold vx
  rw [bw, Option.bind_some]
  refine Tot.ite (fun hc => ?_) fun _ => Tot.some ⟨by omega, g4⟩
  simp at hc
  have nx : ∀ (c : Claim), uf c → Tot (Option.bind (m8 48 v.1 [c]) fun a => r (a, i64 (v.2 + 1))) fun r => r.length ≤ 6 ∧ ∀ c ∈ r, uf c := fun c hc => by
    refine Tot.bind (mj (by simp; omega)) fun a ha => ?_
    subst ha
    rw [ss g1 (by omega)]
    refine ih _ ⟨by show 0 ≤ v.2 + 1; omega, by show v.2 + 1 ≤ 6; omega, by simp; omega, fun x hx => ?_⟩ (by show (6 - (v.2 + 1)).toNat < (6 - v.2).toNat; omega)
    rcases List.mem_append.1 hx with hx | hx
    · exact g4 x hx
    · rw [List.mem_singleton.1 hx]; exact hc
  obtain ⟨y, hg, _⟩ := dh g1 (show v.2 < (d.length : Int) by omega)
  simp only [hg, h3, h9, h4, h5, h900, dl, Option.bind_some]
  rw [au (n := 1 + y.Number % 9) (by omega) (by omega), au (n := 1 + y.Person % 4) (by omega) (by omega), au (n := 1 + y.Benefit % 5) (by omega) (by omega), au (n := 35150 + y.Day % 900) (by omega) (by omega),
    au (n := 1 + y.Ref % 4) (by omega) (by omega), au (n := 1 + (1 + y.Person % 4) % 4) (by omega) (by omega)]
  split
  · rename_i hb
    simp only [Bool.or_eq_true, beq_iff_eq] at hb
    split
    · exact nx _ ⟨⟨⟨by simp only []; omega, by simp only []; omega⟩, ⟨by simp only []; omega, by simp only []; omega⟩, ⟨by simp only []; omega, by simp only []; omega⟩, .inl ⟨hb, by simp only []; omega, by simp only []; omega, by simp only []; omega⟩⟩, by simp only []; omega, by simp only []; omega⟩
    · rename_i hr
      simp only [beq_iff_eq] at hr
      exact nx _ ⟨⟨⟨by simp only []; omega, by simp only []; omega⟩, ⟨by simp only []; omega, by simp only []; omega⟩, ⟨by simp only []; omega, by simp only []; omega⟩, .inl ⟨hb, by simp only []; omega, by simp only []; omega, hr⟩⟩, by simp only []; omega, by simp only []; omega⟩
  · rename_i hb
    simp only [Bool.or_eq_true, beq_iff_eq, not_or] at hb
    exact nx _ ⟨⟨⟨by simp only []; omega, by simp only []; omega⟩, ⟨by simp only []; omega, by simp only []; omega⟩, ⟨by simp only []; omega, by simp only []; omega⟩, .inr ⟨by simp only []; omega, rfl⟩⟩, by simp only []; omega, by simp only []; omega⟩
theorem af0 (n : Int) : Tot (sv n) fun r => r.length = 6 ∧ ∀ c ∈ r, uf c := by
  unfold sv
  rw [Js (by decide) (by decide), Option.bind_some]
  have h : 0 ≤ n % 400 ∧ n % 400 < 400 := by omega
  generalize n % 400 = z at h
  rw [au (n := 35150 + z) (by omega) (by omega)]
  refine Tot.some ⟨rfl, fun c hc => ?_⟩
  simp only [List.mem_cons, List.not_mem_nil, or_false] at hc
  rcases hc with rfl | rfl | rfl | rfl | rfl | rfl <;> exact ⟨by unfold sg; simp, by simp only []; omega, by simp only []; omega⟩
end Go.PL
namespace Go.PL
open Go Go.SX
theorem a4q {A T : List Claim} {x y : Claim} : uc (uc (A ++ y :: x :: T) ((A.length : Int) + 1) y) (A.length : Int) x = A ++ x :: y :: T := by
  have e1 : ((A.length : Int) + 1).toNat = A.length + 1 := by omega
  unfold uc
  rw [if_pos (by omega), if_pos (by omega), e1, Int.toNat_natCast]
  rw [List.set_append_right _ _ (by omega), List.set_append_right _ _ (by omega)]
  simp
theorem U8 {A T : List Claim} {x : Claim} : av (A ++ x :: T) (A.length : Int) = some x := by
  rw [p7]; simp
theorem ab5 {A T : List Claim} {x y : Claim} : uc (A ++ y :: x :: T) ((A.length : Int) + 1) y = A ++ y :: y :: T := by
  have e1 : ((A.length : Int) + 1).toNat = A.length + 1 := by omega
  unfold uc
  rw [if_pos (by omega), e1, List.set_append_right _ _ (by omega)]
  simp
def aba (cmp : Claim → Claim → Option Int) (a1 : Int) (r2 : ((List Claim) × Int) → Option (List Claim)) (v1 : (List Claim) × Int) (r4 : ((List Claim) × Int) → Option (List Claim)) (v3 : (List Claim) × Int) : Option (List Claim) :=
  (if (decide (v3.2 > a1)) then (av v3.1 v3.2).bind fun v5 => (av v3.1 v3.2).bind fun v6 => (av v3.1 (i64 (v3.2 - 1))).bind fun v7 => (av v3.1 (i64 (v3.2 - 1))).bind fun v8 => (cmp v6 v8).bind fun v9 => some (decide (v9 < 0)) else some false).bind fun v10 =>
  if v10 then (av v3.1 (i64 (v3.2 - 1))).bind fun v11 => (av v3.1 (i64 (v3.2 - 1))).bind fun v12 => (av v3.1 v3.2).bind fun v13 => (av v3.1 v3.2).bind fun v14 => (av v3.1 v3.2).bind fun v15 => (av v3.1 v3.2).bind fun v16 =>
    (av (uc v3.1 v3.2 v12) (i64 (v3.2 - 1))).bind fun v17 => (av (uc v3.1 v3.2 v12) (i64 (v3.2 - 1))).bind fun v18 => r4 (uc (uc v3.1 v3.2 v12) (i64 (v3.2 - 1)) v14, i64 (v3.2 - 1))
  else r2 (v3.1, i64 (v1.2 + 1))
def a5a (cmp : Claim → Claim → Option Int) (a2 : Int) (a1 : Int) (r2 : ((List Claim) × Int) → Option (List Claim)) (v1 : (List Claim) × Int) : Option (List Claim) :=
  if (decide (v1.2 < a2)) then am FU (aba cmp a1 r2 v1) (v1.1, v1.2) else some v1.1
def adv (cmp : Claim → Claim → Option Int) (a0 : List Claim) (a1 : Int) (a2 : Int) : Option (List Claim) := am FU (a5a cmp a2 a1) (a0, i64 (a1 + 1))
theorem Ui : c6 = adv jg := rfl
theorem Pa : ax = adv ga := rfl
section
variable {c : Claim → Claim → Int} {cmp : Claim → Claim → Option Int} {S : Claim → Prop}
structure Ordered (c : Claim → Claim → Int) (S : Claim → Prop) : Prop where
  asymm : ∀ x y, S x → S y → c x y < 0 → ¬ c y x < 0
  trans : ∀ x y z, S x → S y → S z → ¬ c y x < 0 → ¬ c z y < 0 → ¬ c z x < 0
def Le (c : Claim → Claim → Int) (x y : Claim) : Prop := ¬ c y x < 0
theorem Je (hO : Ordered c S) (hc : ∀ x y, S x → S y → cmp x y = some (c x y)) (orig : List Claim) (hS : ∀ x ∈ orig, S x) (hlen : orig.length ≤ 1000) (i : Nat) (rec : List Claim × Int → Option (List Claim))
    (A : List Claim) (x : Claim) (C : List Claim) (hi : A.length = i) (hp : (A ++ x :: C).Perm orig) (hs : A.Pairwise (Le c)) :
    ∃ A' : List Claim, A'.length = i + 1 ∧ (A' ++ C).Perm orig ∧ A'.Pairwise (Le c) ∧
      am FU (aba cmp 0 rec (A ++ x :: C, (i : Int))) (A ++ x :: C, (i : Int)) = rec (A' ++ C, ((i + 1 : Nat) : Int)) := by
  have hil : i < 1000 := by have := hp.length_eq; simp at this; omega
  refine xx (fun s => ∃ (A1 B : List Claim), s = (A1 ++ x :: (B ++ C), (A1.length : Int)) ∧ A1.length + B.length = i ∧ (A1 ++ x :: (B ++ C)).Perm orig ∧ (A1 ++ B).Pairwise (Le c) ∧ ∀ b ∈ B, Le c x b) (fun s => s.2.toNat)
    (fun o => ∃ A' : List Claim, A'.length = i + 1 ∧ (A' ++ C).Perm orig ∧ A'.Pairwise (Le c) ∧ o = rec (A' ++ C, ((i + 1 : Nat) : Int))) ⟨A, [], by simp [hi], by simpa using hi, by simpa using hp, by simpa using hs, by simp⟩ (by show ((i : Int)).toNat < _; omega) ?_
  rintro s rec2 ⟨A1, B, rfl, hl, hp1, hs1, hb⟩
  have hmem : ∀ y ∈ A1 ++ x :: (B ++ C), S y := fun y hy => hS y (hp1.subset hy)
  have hSx : S x := hmem x (by simp)
  have stop : ∀ o : Option (List Claim), o = rec (A1 ++ x :: (B ++ C), i64 ((i : Int) + 1)) → (∀ a ∈ A1, Le c a x) →
      ∃ A' : List Claim, A'.length = i + 1 ∧ (A' ++ C).Perm orig ∧ A'.Pairwise (Le c) ∧ o = rec (A' ++ C, ((i + 1 : Nat) : Int)) := by
    intro o ho ha
    refine ⟨A1 ++ x :: B, by simp; omega, by simpa using hp1, ?_, ?_⟩
    · rw [List.pairwise_append] at hs1 ⊢
      refine ⟨hs1.1, List.pairwise_cons.2 ⟨hb, hs1.2.1⟩, fun a h1 b h2 => ?_⟩
      rcases List.mem_cons.1 h2 with h2 | h2
      · rw [h2]; exact ha a h1
      · exact hs1.2.2 a h1 b h2
    · rw [ho, au (by omega) (by omega)]; simp
  unfold aba
  rcases List.eq_nil_or_concat A1 with h0 | ⟨A2, y, h0⟩
  · subst h0
    left
    have : decide ((([] : List Claim).length : Int) > (0 : Int)) = false := by simp
    simp only [this, Bool.false_eq_true, if_false, Option.bind_some]
    exact stop _ rfl (by simp)
  · have h0 : A1 = A2 ++ [y] := by simpa using h0
    subst h0
    have e0 : (((A2 ++ [y]).length : Nat) : Int) = (A2.length : Int) + 1 := by simp
    have hd : decide ((((A2 ++ [y]).length : Nat) : Int) > (0 : Int)) = true := by rw [e0, decide_eq_true_eq]; omega
    have hA2 : A2.length < 1000 := by simp at hl; omega
    have e1 : i64 ((((A2 ++ [y]).length : Nat) : Int) - 1) = (A2.length : Int) := by rw [e0, au (by omega) (by omega)]; omega
    have eL : A2 ++ [y] ++ x :: (B ++ C) = A2 ++ y :: x :: (B ++ C) := by simp
    have g1 : av (A2 ++ [y] ++ x :: (B ++ C)) (((A2 ++ [y]).length : Nat) : Int) = some x := U8
    have g2 : av (A2 ++ [y] ++ x :: (B ++ C)) (A2.length : Int) = some y := by rw [eL]; exact U8
    have g3 : av (uc (A2 ++ [y] ++ x :: (B ++ C)) (((A2 ++ [y]).length : Nat) : Int) y) (A2.length : Int) = some y := by rw [eL, e0, ab5]; exact U8
    have hSy : S y := hmem y (by simp)
    simp only [hd, if_true, g1, e1, g2, g3, hc x y hSx hSy, Option.bind_some]
    by_cases hlt : c x y < 0
    · right
      simp only [hlt, decide_true, if_true]
      refine ⟨_, rfl, ⟨A2, y :: B, ?_, by simp at hl ⊢; omega, ?_, by simpa using hs1, ?_⟩, by simp only [e0, Int.toNat_natCast]; omega⟩
      · rw [eL, e0, a4q]; simp
      · refine List.Perm.trans ?_ hp1
        rw [eL]
        exact List.Perm.append_left A2 (List.Perm.swap y x (B ++ C))
      · intro b hbm
        rcases List.mem_cons.1 hbm with hbm | hbm
        · rw [hbm]; exact hO.asymm x y hSx hSy hlt
        · exact hb b hbm
    · left
      simp only [hlt, decide_false, Bool.false_eq_true, if_false]
      refine stop _ rfl (fun a ha => ?_)
      rw [List.mem_append, List.mem_singleton] at ha
      rcases ha with ha | ha
      · have hay : Le c a y := by
          rw [List.append_assoc, List.pairwise_append] at hs1
          exact hs1.2.2 a ha y (by simp)
        exact hO.trans a y x (hmem a (by simp [ha])) hSy hSx hay hlt
      · rw [ha]; exact hlt
theorem Gb (hO : Ordered c S) (hc : ∀ x y, S x → S y → cmp x y = some (c x y)) (orig : List Claim) (hS : ∀ x ∈ orig, S x) (hlen : orig.length ≤ 1000) :
    ∃ r, adv cmp orig 0 (orig.length : Int) = some r ∧ r.Perm orig ∧ r.Pairwise (Le c) := by
  unfold adv
  by_cases hne : orig = []
  · subst hne
    refine ⟨[], ?_, List.Perm.refl _, List.Pairwise.nil⟩
    have : ∀ k, 0 < k → am k (a5a cmp (([] : List Claim).length : Int) 0) ([], i64 (0 + 1)) = some [] := by
      intro k hk
      cases k with
      | zero => exact absurd hk (Nat.lt_irrefl 0)
      | succ k => show a5a _ _ _ _ _ = _; unfold a5a; dsimp only; rw [if_neg (by rw [au (by omega) (by omega)]; simp)]
    exact this FU (by unfold FU; omega)
  have hpos : 0 < orig.length := List.length_pos_iff.2 hne
  have e1 : i64 (0 + 1) = ((1 : Nat) : Int) := by rw [au (by omega) (by omega)]; rfl
  rw [e1]
  refine ko (fun s => ∃ (A C : List Claim), s = (A ++ C, (A.length : Int)) ∧ 1 ≤ A.length ∧ (A ++ C).Perm orig ∧ A.Pairwise (Le c)) (fun s => orig.length - s.2.toNat) _ ?_ (by show orig.length - _ < _; omega) ?_
  · cases orig with
    | nil => exact absurd rfl hne
    | cons x r => exact ⟨[x], r, rfl, by simp, List.Perm.refl _, List.pairwise_singleton _ _⟩
  · rintro s rec ⟨A, C, rfl, hA, hp, hs⟩
    unfold a5a
    dsimp only
    have hle := hp.length_eq
    rw [List.length_append] at hle
    cases C with
    | nil =>
      left
      rw [if_neg (by simp at hle ⊢; omega)]
      exact ⟨A ++ [], rfl, hp, by simpa using hs⟩
    | cons x C =>
      right
      rw [List.length_cons] at hle
      rw [if_pos (by simp; omega)]
      obtain ⟨A', h1, h2, h3, h4⟩ := Je hO hc orig hS hlen A.length rec A x C rfl hp hs
      refine ⟨_, h4, ⟨A', C, by rw [h1], by omega, h2, h3⟩, by simp only [Int.toNat_natCast]; omega⟩
end
def sgn (p q : Int) : Int := if p < q then -1 else if q < p then 1 else 0
theorem K4 (x y : Int) : bv x y = some (sgn x y) := by
  unfold bv oa sgn
  simp only [bne_self_eq_false, Option.bind_some, Bool.false_eq_true, if_false, decide_eq_true_eq, gt_iff_lt]
  split
  · rfl
  · split <;> rfl
def orI : List Int → Int
  | [] => 0
  | x :: r => if x = 0 then orI r else x
theorem a0m (p q : Int) : sgn p q < 0 ↔ p < q := by
  unfold sgn; split
  · omega
  · split <;> omega
theorem W7 (p q : Int) : sgn p q = 0 ↔ p = q := by
  unfold sgn; split
  · omega
  · split <;> omega
theorem Xp (x : Int) (r : List Int) : orI (x :: r) < 0 ↔ x < 0 ∨ x = 0 ∧ orI r < 0 := by
  simp only [orI]; split <;> omega
def Gz (a b : Claim) : Int := orI [sgn a.Issuer b.Issuer, sgn a.Number b.Number, sgn a.Day b.Day, sgn a.Person b.Person, sgn a.Benefit b.Benefit, sgn a.Ref b.Ref]
theorem xp (a b : Claim) : Gz a b < 0 ↔ a.Issuer < b.Issuer ∨ a.Issuer = b.Issuer ∧ (a.Number < b.Number ∨ a.Number = b.Number ∧ (a.Day < b.Day ∨ a.Day = b.Day ∧ (a.Person < b.Person ∨ a.Person = b.Person ∧ (a.Benefit < b.Benefit ∨ a.Benefit = b.Benefit ∧ a.Ref < b.Ref)))) := by
  unfold Gz
  simp only [Xp, a0m, W7]
  simp [orI]
theorem Te {a b : Claim} (h1 : a.Issuer = b.Issuer) (h2 : a.Number = b.Number) (h3 : a.Person = b.Person) (h4 : a.Benefit = b.Benefit) (h5 : a.Ref = b.Ref) (h6 : a.Day = b.Day) : a = b := by
  cases a; cases b; simp_all
theorem Qc {a b : Claim} (h1 : ¬ Gz a b < 0) (h2 : ¬ Gz b a < 0) : a = b := by
  rw [xp] at h1 h2
  exact Te (by omega) (by omega) (by omega) (by omega) (by omega) (by omega)
theorem yg (a : Claim) : ¬ Gz a a < 0 := by rw [xp]; omega
theorem F8 {a b c : Claim} (h1 : Gz a b < 0) (h2 : Gz b c < 0) : Gz a c < 0 := by
  rw [xp] at *; omega
theorem Qh (S : Claim → Prop) : Ordered Gz S := by
  constructor
  · intro x y _ _; rw [xp, xp]; omega
  · intro x y z _ _ _; rw [xp, xp, xp]; omega
theorem af3 (l : List Int) (hl : l.length ≤ 1000) : lv l = some (orI l) := by
  unfold lv
  obtain ⟨r, h1, h2⟩ := ko (f := l7 l) (fun s => ∃ A B, l = A ++ B ∧ s = (A.length : Int) ∧ orI l = orI B) (fun s => l.length - s.toNat) (fun r => r = orI l) (s := 0) ⟨[], l, rfl, rfl, rfl⟩ (by show l.length - _ < _; omega) (by
    rintro s rec ⟨A, B, hAB, rfl, ho⟩
    unfold l7
    have hlen : l.length = A.length + B.length := by rw [hAB]; simp
    cases B with
    | nil =>
      left
      rw [if_neg (by simp at hlen ⊢; omega)]
      exact ⟨_, rfl, by rw [ho]; rfl⟩
    | cons y B =>
      rw [List.length_cons] at hlen
      have hg : av l (A.length : Int) = some y := by rw [hAB, p7]; simp
      rw [if_pos (by simp; omega), hg, Option.bind_some]
      by_cases hy : y = 0
      · right
        rw [if_neg (by simp [hy]), au (n := (A.length : Int) + 1) (by omega) (by omega)]
        exact ⟨((A ++ [y]).length : Int), by simp, ⟨A ++ [y], B, by rw [hAB]; simp, rfl, by rw [ho, hy]; rfl⟩, by simp; omega⟩
      · left
        rw [if_pos (by simpa using hy)]
        exact ⟨_, rfl, by rw [ho]; simp [orI, hy]⟩)
  rw [h1, h2]
theorem Vf (a b : Claim) : jg a b = some (Gz a b) := by
  unfold jg
  simp only [K4, Option.bind_some]
  rw [af3 _ (by simp)]; rfl
def eqF (a b : Claim) : Bool := (a.Issuer == b.Issuer) && ((a.Number == b.Number) && ((a.Person == b.Person) && ((a.Benefit == b.Benefit) && ((a.Ref == b.Ref) && ((a.Day == b.Day) && (true))))))
theorem a2x (a b : Claim) : eqF a b = true ↔ a = b := by
  unfold eqF
  simp only [Bool.and_eq_true, beq_iff_eq, Bool.and_true]
  constructor
  · rintro ⟨h1, h2, h3, h4, h5, h6⟩; exact Te h1 h2 h3 h4 h5 h6
  · rintro rfl; simp
instance : DecidableEq Claim := fun a b => decidable_of_iff _ (a2x a b)
theorem a0e (a b : Claim) : ((a.Issuer == b.Issuer) && ((a.Number == b.Number) && ((a.Person == b.Person) && ((a.Benefit == b.Benefit) && ((a.Ref == b.Ref) && ((a.Day == b.Day) && (true))))))) = decide (a = b) := by
  rw [Bool.eq_iff_iff, decide_eq_true_eq]; exact a2x a b
def ddF (p : Claim) : List Claim → List Claim
  | [] => []
  | y :: r => if y = p then ddF p r else y :: ddF y r
def dd : List Claim → List Claim
  | [] => []
  | x :: r => x :: ddF x r
theorem Nd : ∀ (A : List Claim) (p y z : Claim), ddF p (A ++ [y, z]) = if z = y then ddF p (A ++ [y]) else ddF p (A ++ [y]) ++ [z]
  | [], p, y, z => by
    simp only [List.nil_append, ddF]
    by_cases h1 : y = p <;> by_cases h2 : z = y <;> simp_all
  | x :: A, p, y, z => by
    simp only [List.cons_append, ddF]
    split
    · exact Nd A p y z
    · rw [Nd A x y z]; split <;> simp
theorem aaw (A : List Claim) (y z : Claim) : dd (A ++ [y, z]) = if z = y then dd (A ++ [y]) else dd (A ++ [y]) ++ [z] := by
  cases A with
  | nil => simp only [List.nil_append, dd, ddF]; split <;> simp
  | cons x A => simp only [List.cons_append, dd]; rw [Nd]; split <;> simp
theorem a4w {l : List Claim} {m : Nat} (h0 : 0 < m) {y z : Claim} (hy : l[m - 1]? = some y) (hz : l[m]? = some z) : dd (l.take (m + 1)) = if z = y then dd (l.take m) else dd (l.take m) ++ [z] := by
  obtain ⟨hm, hz'⟩ := List.getElem?_eq_some_iff.1 hz
  obtain ⟨hm1, hy'⟩ := List.getElem?_eq_some_iff.1 hy
  have e1 : l.take m = l.take (m - 1) ++ [y] := by
    have := List.take_succ_eq_append_getElem (l := l) (i := m - 1) hm1
    rw [show m - 1 + 1 = m by omega, hy'] at this
    exact this
  have e2 : l.take (m + 1) = l.take (m - 1) ++ [y, z] := by
    rw [List.take_succ_eq_append_getElem hm, hz', e1]; simp
  rw [e2, e1, aaw]
theorem U5 : ∀ (r : List Claim) (p x : Claim), x ∈ p :: ddF p r ↔ x ∈ p :: r
  | [], p, x => Iff.rfl
  | y :: r, p, x => by
    simp only [ddF]
    split
    · rename_i h
      rw [U5 r p x, h]; simp
    · have := U5 r y x
      simp only [List.mem_cons] at this ⊢
      constructor
      · rintro (h | h)
        · exact .inl h
        · exact .inr (this.1 h)
      · rintro (h | h)
        · exact .inl h
        · exact .inr (this.2 h)
theorem af4 (l : List Claim) (x : Claim) : x ∈ dd l ↔ x ∈ l := by
  cases l with
  | nil => exact Iff.rfl
  | cons y r => exact U5 r y x
theorem F3 : ∀ (r : List Claim) (p : Claim), (p :: r).Pairwise (Le Gz) → (p :: ddF p r).Pairwise (fun a b => Gz a b < 0)
  | [], p, _ => List.pairwise_singleton _ _
  | y :: r, p, h => by
    obtain ⟨h1, h2⟩ := List.pairwise_cons.1 h
    simp only [ddF]
    split
    · rename_i hy
      subst hy
      exact F3 r y h2
    · rename_i hy
      have h3 := F3 r y h2
      have hpy : Gz p y < 0 := by
        by_cases h4 : Gz p y < 0
        · exact h4
        · exact absurd (Qc h4 (h1 y (by simp))).symm hy
      refine List.pairwise_cons.2 ⟨fun b hb => ?_, h3⟩
      rcases List.mem_cons.1 hb with hb | hb
      · rw [hb]; exact hpy
      · exact F8 hpy ((List.pairwise_cons.1 h3).1 b hb)
theorem a3t {l : List Claim} (h : l.Pairwise (Le Gz)) : (dd l).Pairwise (fun a b => Gz a b < 0) := by
  cases l with
  | nil => exact List.Pairwise.nil
  | cons y r => exact F3 r y h
theorem P6 (l : List Claim) (hl : l.length ≤ 1000) (k : Nat) (hk1 : 1 ≤ k) (h : k < l.length) (htk : dd (l.take (k + 1)) = l.take k) (m : Nat) (hsl : m = l.length - k) :
    ∃ r, am FU dc (l, (k : Int), 1, ((k : Int), m)) = some r ∧ r = dd l := by
  refine ko (f := dc) (fun s => ∃ (k3 k2 : Nat) (cur : List Claim), s = (cur, (k3 : Int), (k2 : Int), ((k : Int), m)) ∧ 1 ≤ k2 ∧ k + k2 ≤ l.length ∧ k ≤ k3 ∧ k3 + 1 ≤ k + k2 ∧ cur.length = l.length ∧ cur.take k3 = dd (l.take (k + k2)) ∧ ∀ j, k + k2 - 1 ≤ j → cur[j]? = l[j]?)
    (fun s => l.length - s.2.2.1.toNat) _ ⟨k, 1, l, rfl, by omega, by omega, by omega, by omega, rfl, htk.symm, fun _ _ => rfl⟩ (by show l.length - _ < _; omega) ?_
  rintro s rec2 ⟨k3, k2, cur, rfl, a1, a2, a3, a4, hcl, hct, hcj⟩
  unfold dc
  dsimp only
  by_cases hlt : k + k2 < l.length
  · right
    have hz2 : l[k + k2]? = some l[k + k2] := List.getElem?_eq_getElem hlt
    have hy2 : l[k + k2 - 1]? = some l[k + k2 - 1] := List.getElem?_eq_getElem (by omega)
    have w1 : av cur ((k : Int) + (k2 : Int)) = some l[k + k2] := by rw [← Int.natCast_add, p7, hcj _ (by omega), hz2]
    have v1 : Gx cur (k : Int) (k2 : Int) = some l[k + k2] := by unfold Gx; rw [if_pos (by omega), w1]
    have e2 : i64 ((k2 : Int) - 1) = ((k2 - 1 : Nat) : Int) := by rw [au (by omega) (by omega)]; omega
    have w2 : av cur ((k : Int) + ((k2 - 1 : Nat) : Int)) = some l[k + k2 - 1] := by rw [← Int.natCast_add, p7, show k + (k2 - 1) = k + k2 - 1 by omega, hcj _ (Nat.le_refl _), hy2]
    have v2 : Gx cur (k : Int) ((k2 - 1 : Nat) : Int) = some l[k + k2 - 1] := by unfold Gx; rw [if_pos (by omega), w2]
    have v3 : av cur (k3 : Int) = some (cur[k3]'(by omega)) := by rw [p7]; exact List.getElem?_eq_getElem _
    have ht2 := a4w (by omega) hy2 hz2
    have e3 : i64 ((k2 : Int) + 1) = ((k2 + 1 : Nat) : Int) := by rw [au (by omega) (by omega)]; simp
    have e4 : i64 ((k3 : Int) + 1) = ((k3 + 1 : Nat) : Int) := by rw [au (by omega) (by omega)]; simp
    have hd0 : decide ((k2 : Int) < (m : Int)) = true := decide_eq_true (by omega)
    simp only [hd0, if_true, v1, w1, e2, v2, w2, Option.bind_some, a0e, v3, e3, e4]
    by_cases hq : l[k + k2] = l[k + k2 - 1]
    · rw [if_neg (by simpa using hq)]
      rw [if_pos hq] at ht2
      exact ⟨_, rfl, ⟨k3, k2 + 1, cur, rfl, by omega, by omega, a3, by omega, hcl, by rw [hct, ← ht2]; rfl, fun j hj => hcj j (by omega)⟩, by simp only [Int.toNat_natCast]; omega⟩
    · rw [if_pos (by simpa using hq)]
      rw [if_neg hq] at ht2
      refine ⟨_, rfl, ⟨k3 + 1, k2 + 1, uc cur (k3 : Int) l[k + k2], rfl, by omega, by omega, by omega, by omega, by rw [Cz]; exact hcl, ?_, fun j hj => ?_⟩, by simp only [Int.toNat_natCast]; omega⟩
      · have : uc cur (k3 : Int) l[k + k2] = cur.set k3 l[k + k2] := by unfold uc; rw [if_pos (by omega), Int.toNat_natCast]
        rw [this, List.take_succ_eq_append_getElem (by rw [List.length_set]; omega)]
        have h5 : (cur.set k3 l[k + k2]).take k3 = cur.take k3 := by rw [List.take_set, List.set_eq_of_length_le (by rw [List.length_take]; omega)]
        rw [h5, hct, show k + (k2 + 1) = k + k2 + 1 by omega, ht2]
        simp
      · have : uc cur (k3 : Int) l[k + k2] = cur.set k3 l[k + k2] := by unfold uc; rw [if_pos (by omega), Int.toNat_natCast]
        rw [this, List.getElem?_set_ne (by omega)]
        exact hcj j (by omega)
  · left
    have hd0 : decide ((k2 : Int) < (m : Int)) = false := decide_eq_false (by omega)
    simp only [hd0, Bool.false_eq_true, if_false]
    have hcc : (wi (⟨0, 0, 0, 0, 0, 0⟩ : Claim) cur (k3 : Int)).length = cur.length := by unfold wi; simp; omega
    rw [rn (by omega) (by omega) (by omega), Option.bind_some]
    unfold aeh
    rw [if_pos (by simp; omega), Option.bind_some, rn (by omega) (by omega) (by rw [hcc]; omega), Option.bind_some]
    refine ⟨_, rfl, ?_⟩
    have hkk : k + k2 = l.length := by omega
    rw [hkk, List.take_length] at hct
    rw [← hct]
    unfold wi
    simp only [Int.toNat_natCast, Int.toNat_zero, List.drop_zero, Nat.sub_zero]
    rw [List.take_append_of_le_length (by rw [List.length_take]; omega), List.take_take, Nat.min_self]
theorem Ta (l : List Claim) (hl : l.length ≤ 1000) (rec : List Claim × Int → Option (List Claim)) (k : Nat) (hk1 : 1 ≤ k) (h : k < l.length) :
    cr rec (l, (k : Int)) = if l[k] = l[k - 1] then am FU dc (l, (k : Int), 1, ((k : Int), ((l.drop k).take (l.length - k)).length)) else rec (l, ((k + 1 : Nat) : Int)) := by
  have hz : av l (k : Int) = some l[k] := by rw [p7]; exact List.getElem?_eq_getElem h
  have e1 : i64 ((k : Int) - 1) = ((k - 1 : Nat) : Int) := by rw [au (by omega) (by omega)]; omega
  have hy : av l (i64 ((k : Int) - 1)) = some l[k - 1] := by rw [e1, p7]; exact List.getElem?_eq_getElem (by omega)
  have hs : fp l (k : Int) (l.length : Int) = some ((l.drop k).take (l.length - k)) := by rw [rn (by omega) (by omega) (by omega)]; simp
  have e2 : i64 ((k : Int) + 1) = ((k + 1 : Nat) : Int) := by rw [au (by omega) (by omega)]; simp
  have hd0 : decide ((k : Int) < (l.length : Int)) = true := decide_eq_true (by omega)
  unfold cr
  generalize am FU = LP
  simp only [hd0, if_true, hz, hy, hs, e2, Option.bind_some, a0e, decide_eq_true_eq]
theorem Tx (l : List Claim) (rec : List Claim × Int → Option (List Claim)) : cr rec (l, (l.length : Int)) = some l := by
  have hd0 : decide ((l.length : Int) < (l.length : Int)) = false := decide_eq_false (by omega)
  unfold cr
  generalize am FU = LP
  simp only [hd0, Bool.false_eq_true, if_false]
theorem Xw (l : List Claim) (hl : l.length ≤ 1000) : fu l = some (dd l) := by
  unfold fu
  by_cases h2 : l.length < 2
  · rw [if_pos (by simp; omega)]
    cases l with
    | nil => rfl
    | cons x r =>
      cases r with
      | nil => rfl
      | cons y r => exact absurd h2 (by simp)
  · rw [if_neg (by simp; omega)]
    obtain ⟨r, h1, h3⟩ := ko (f := cr) (fun s => ∃ k : Nat, s = (l, (k : Int)) ∧ 1 ≤ k ∧ k ≤ l.length ∧ dd (l.take k) = l.take k) (fun s => l.length - s.2.toNat) (fun r => r = dd l) (s := (l, 1)) ⟨1, rfl, by omega, by omega, by
        cases l with
        | nil => rfl
        | cons x r => rfl⟩ (Nat.lt_of_le_of_lt (Nat.sub_le _ _) (Nat.lt_of_le_of_lt hl (by decide))) (by
      rintro s rec ⟨k, rfl, hk1, hk, hd⟩
      by_cases h : k < l.length
      · have htk := a4w (l := l) (m := k) (by omega) (List.getElem?_eq_getElem (by omega)) (List.getElem?_eq_getElem h)
        rw [Ta l hl rec k hk1 h]
        by_cases heq : l[k] = l[k - 1]
        · left
          rw [if_pos heq]
          rw [if_pos heq, hd] at htk
          exact P6 l hl k hk1 h htk _ (by rw [List.length_take, List.length_drop]; omega)
        · right
          rw [if_neg heq]
          rw [if_neg heq, hd] at htk
          refine ⟨_, rfl, ⟨k + 1, rfl, by omega, h, ?_⟩, by simp only [Int.toNat_natCast]; omega⟩
          rw [htk, List.take_succ_eq_append_getElem h]
      · left
        have : k = l.length := by omega
        subst this
        rw [Tx]
        rw [List.take_length] at hd
        exact ⟨l, rfl, hd.symm⟩)
    rw [h1, h3]
def vB (c : Claim) : Bool := (ij c).getD false
theorem ahi (c : Claim) : ij c = some (vB c) := by
  obtain ⟨v, h, _⟩ := D9 c
  unfold vB; rw [h]; rfl
theorem acv {c : Claim} (h : uf c) : vB c = true := by unfold vB; rw [F9 h]; rfl
def Vl : Nat → Bool
  | 0 => true
  | n + 1 => (Ha (u64 (n : Int))).isSome && Vl n
theorem a4f : Vl 13 = true := by kernel_rfl
theorem Rx : ∀ (k n : Nat), Vl k = true → n < k → (Ha (u64 (n : Int))).isSome = true
  | 0, n, _, h => by omega
  | k + 1, n, h, hn => by
    simp only [Vl, Bool.and_eq_true] at h
    by_cases e : n = k
    · rw [e]; exact h.1
    · exact Rx k n h.2 (by omega)
theorem R6 (l : List Claim) (hl : l.length ≤ 12) (r : List Claim) (h1 : adv jg l 0 (l.length : Int) = some r) : bn l = some r := by
  rw [← Ui] at h1
  obtain ⟨n, hn⟩ := Option.isSome_iff_exists.1 (Rx 13 l.length a4f (by omega))
  unfold bn du
  rw [hn, Option.bind_some]
  have key : ∀ k, 0 < k → ((ac k).f_slices_pdqsortCmpFunc_of_api_Claim l 0 (l.length : Int) n) = some r := by
    intro k hk
    cases k with
    | zero => exact absurd hk (Nat.lt_irrefl 0)
    | succ k =>
      show bq _ _ _ _ _ = _
      unfold bq
      generalize ac k = R
      have key2 : ∀ k, 0 < k → am k (bj R) (l, 0, (l.length : Int), n, true, true) = some r := by
        intro k hk
        cases k with
        | zero => exact absurd hk (Nat.lt_irrefl 0)
        | succ k =>
          show bj _ _ _ = _
          unfold bj
          dsimp only
          rw [au (by omega) (by omega), if_pos (by simp; omega), h1, Option.bind_some]
      exact key2 FU (by unfold FU; omega)
  rw [key FU (by unfold FU; omega), Option.bind_some]
theorem Tv (l : List Claim) (hl : l.length ≤ 12) : ∃ r, bn l = some r ∧ r.Perm l ∧ r.Pairwise (Le Gz) := by
  obtain ⟨r, h1, h2, h3⟩ := Gb (c := Gz) (S := fun _ => True) (cmp := jg) (Qh _) (fun x y _ _ => Vf x y) l (fun _ _ => trivial) (by omega)
  exact ⟨r, R6 l hl r h1, h2, h3⟩
theorem abx : ∀ (r : List Claim) (p : Claim), (ddF p r).length ≤ r.length := by
  intro r
  induction r with
  | nil => intro p; exact Nat.le_refl _
  | cons y r ih =>
    intro p; simp only [ddF]; split
    · exact Nat.le_succ_of_le (ih p)
    · simp only [List.length_cons]; exact Nat.succ_le_succ (ih y)
theorem aeg (s : List Claim) : (dd s).length ≤ s.length := by
  cases s with
  | nil => simp [dd]
  | cons x r => have := abx r x; simp only [dd, List.length_cons] at *; omega
theorem a0f (l : List Claim) (hl : l.length ≤ 12) (hok : ∀ c ∈ l, uf c) : ∃ q, jz l = some q ∧ q.Pairwise (fun a b => Gz a b < 0) ∧ (∀ c, c ∈ q ↔ c ∈ l) ∧ q.length ≤ 12 := by
  obtain ⟨r, h1, h2, h3⟩ := Tv l hl
  have hr : r.length = l.length := h2.length_eq
  refine ⟨dd r, ?_, a3t h3, fun c => by rw [af4, h2.mem_iff], by have := aeg r; omega⟩
  unfold jz
  refine gr (f := pn l) l (fun s i => (s, i)) (fun s i => s = l.take i) (fun o => o = some (dd r)) (by omega) ?_ ?_ [] (by simp)
  · rintro rec s i y hi hy rfl
    right
    unfold pn
    rw [if_pos (ox hi)]
    simp only [d6 hy, Option.bind_some, ahi, acv (hok y (List.mem_of_getElem? hy)), if_true]
    rw [de (by simp only [List.length_cons, List.length_nil, List.length_take]; omega), Option.bind_some, gl (by omega)]
    exact ⟨_, rfl, (j3 hy).symm⟩
  · rintro rec s rfl
    unfold pn
    dsimp only
    rw [if_neg (jt _), List.take_length, h1, Option.bind_some, Xw r (by omega), Option.bind_some]
end Go.PL
