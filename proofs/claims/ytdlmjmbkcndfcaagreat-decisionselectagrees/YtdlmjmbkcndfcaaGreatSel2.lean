/- Select of the reference; DecisionSelectAgrees is true. Plain Lean. -/
import Derived.Test.YtdlmjmbkcndfcaaGreatSel
set_option linter.unusedSimpArgs false
set_option linter.unusedVariables false
namespace Go.PL
open Go

theorem valid_ref {c : Claim} (h : handOK c) : pensionref26_Valid c = some true := by
  obtain ⟨v, h2, h3⟩ := Valid_agree c
  rw [valid_hand h] at h2
  cases h2
  exact h3
/-- The claims that `least` looks for. -/
def PLs (i b ref m : Int) (d : Claim) : Prop := d.Benefit = b ∧ (0 < i → d.Person = i) ∧ (0 < ref → d.Ref = ref) ∧ (b = 4 → st m d = true)
theorem least_eq (l : List Claim) (hl : l.length ≤ 12) (hok : ∀ c ∈ l, handOK c) (i b ref m : Int) :
    ∃ x, pensionref26_least l i b ref m = some x ∧ ((x = -1 ∧ ∀ d ∈ l, ¬ PLs i b ref m d) ∨ ∃ c, 0 ≤ x ∧ getI l x = some c ∧ minIn (PLs i b ref m) l c) := by
  unfold pensionref26_least
  refine loopC_FU (fun s => ∃ n : Nat, s.2 = (n : Int) ∧ n ≤ l.length ∧ ((s.1 = -1 ∧ ∀ d ∈ l.take n, ¬ PLs i b ref m d) ∨ ∃ c, 0 ≤ s.1 ∧ getI l s.1 = some c ∧ minIn (PLs i b ref m) (l.take n) c)) (fun s => l.length - s.2.toNat) _
    ⟨0, rfl, Nat.zero_le _, .inl ⟨rfl, by simp⟩⟩ (by show l.length - _ < _; omega) ?_
  rintro ⟨x, x2⟩ rec ⟨n, hx2, hn, hI⟩
  simp only at hx2 hI
  subst hx2
  unfold pensionref26_least_l pensionref26_least_j
  dsimp only
  by_cases h : n < l.length
  · right
    have hg : getI l (n : Int) = some l[n] := by rw [getI_nat]; exact List.getElem?_eq_getElem h
    have hy := hok l[n] (List.getElem_mem h)
    have htk : l.take (n + 1) = l.take n ++ [l[n]] := List.take_succ_eq_append_getElem h
    generalize l[n] = y at *
    have e1 : i64 ((n : Int) + 1) = ((n + 1 : Nat) : Int) := by rw [i64_id (by omega) (by omega)]; simp
    have hd0 : decide ((n : Int) < (l.length : Int)) = true := decide_eq_true (by omega)
    simp only [hd0, if_true, hg, Option.bind_some, valid_ref hy, e1, st_ref hy]
    have next : ∀ x' : Int, ((x' = -1 ∧ ∀ d ∈ l.take (n + 1), ¬ PLs i b ref m d) ∨ ∃ c, 0 ≤ x' ∧ getI l x' = some c ∧ minIn (PLs i b ref m) (l.take (n + 1)) c) →
        ∃ s' : Int × Int, rec (x', ((n + 1 : Nat) : Int)) = rec s' ∧ (∃ n : Nat, s'.2 = (n : Int) ∧ n ≤ l.length ∧ ((s'.1 = -1 ∧ ∀ d ∈ l.take n, ¬ PLs i b ref m d) ∨ ∃ c, 0 ≤ s'.1 ∧ getI l s'.1 = some c ∧ minIn (PLs i b ref m) (l.take n) c)) ∧ l.length - s'.2.toNat < l.length - (n : Int).toNat :=
      fun x' h' => ⟨_, rfl, ⟨n + 1, rfl, h, h'⟩, by simp only [Int.toNat_natCast]; omega⟩
    have hskip : ¬ PLs i b ref m y → ((x = -1 ∧ ∀ d ∈ l.take (n + 1), ¬ PLs i b ref m d) ∨ ∃ c, 0 ≤ x ∧ getI l x = some c ∧ minIn (PLs i b ref m) (l.take (n + 1)) c) := by
      intro hny
      rw [htk]
      rcases hI with ⟨h1, h2⟩ | ⟨c, h1, h2, h3, h4, h5⟩
      · refine .inl ⟨h1, fun d hd => ?_⟩
        rcases List.mem_append.1 hd with hd | hd
        · exact h2 d hd
        · rw [List.mem_singleton.1 hd]; exact hny
      · refine .inr ⟨c, h1, h2, by simp [h3], h4, fun d hd hP => ?_⟩
        rcases List.mem_append.1 hd with hd | hd
        · exact h5 d hd hP
        · rw [List.mem_singleton.1 hd] at hP; exact absurd hP hny
    have hmain : PLs i b ref m y → ∃ s' : Int × Int, (Option.bind (if decide (x < 0) = true then some true else Option.bind (getI l x) fun y2 => Option.bind (pensionref26_ClaimLess y y2) fun z3 => some z3) fun c2 => if c2 = true then rec ((n : Int), ((n + 1 : Nat) : Int)) else rec (x, ((n + 1 : Nat) : Int))) = rec s' ∧ (∃ n : Nat, s'.2 = (n : Int) ∧ n ≤ l.length ∧ ((s'.1 = -1 ∧ ∀ d ∈ l.take n, ¬ PLs i b ref m d) ∨ ∃ c, 0 ≤ s'.1 ∧ getI l s'.1 = some c ∧ minIn (PLs i b ref m) (l.take n) c)) ∧ l.length - s'.2.toNat < l.length - (n : Int).toNat := by
      intro hyP
      rcases hI with ⟨h1, h2⟩ | ⟨c, h1, h2, h3, h4, h5⟩
      · rw [if_pos (by simp; omega), Option.bind_some, if_pos rfl]
        refine next _ (.inr ⟨y, Int.natCast_nonneg _, hg, ?_⟩)
        rw [htk]
        refine ⟨by simp, hyP, fun d hd hP => ?_⟩
        rcases List.mem_append.1 hd with hd | hd
        · exact absurd hP (h2 d hd)
        · rw [List.mem_singleton.1 hd]; exact cmpC_irrefl y
      · rw [if_neg (by simp; omega), h2, Option.bind_some, ClaimLess_eq, Option.bind_some, Option.bind_some]
        by_cases hlt : cmpC y c < 0
        · rw [if_pos (decide_eq_true hlt)]
          refine next _ (.inr ⟨y, Int.natCast_nonneg _, hg, ?_⟩)
          rw [htk]
          refine ⟨by simp, hyP, fun d hd hP => ?_⟩
          rcases List.mem_append.1 hd with hd | hd
          · exact fun h6 => h5 d hd hP (cmpC_trans h6 hlt)
          · rw [List.mem_singleton.1 hd]; exact cmpC_irrefl y
        · rw [if_neg (by simpa using hlt)]
          refine next _ (.inr ⟨c, h1, h2, ?_⟩)
          rw [htk]
          refine ⟨by simp [h3], h4, fun d hd hP => ?_⟩
          rcases List.mem_append.1 hd with hd | hd
          · exact h5 d hd hP
          · rw [List.mem_singleton.1 hd]; exact hlt
    by_cases hQ : y.Benefit = b ∧ (0 < i → y.Person = i) ∧ (0 < ref → y.Ref = ref)
    · have hc : ((((!true) || (y.Benefit != b)) || (decide (0 < i) && (y.Person != i))) || (decide (0 < ref) && (y.Ref != ref))) = false := by
        obtain ⟨q1, q2, q3⟩ := hQ
        rw [Bool.eq_false_iff]
        simp only [Bool.not_true, Bool.false_or, Bool.or_eq_true, Bool.and_eq_true, bne_iff_ne, decide_eq_true_eq, ne_eq]
        omega
      simp only [hc, Bool.false_eq_true, if_false]
      by_cases hb : b = 4
      · simp only [show (b == 4) = true by simpa using hb, if_true, Option.bind_some]
        cases hst : st m y with
        | true =>
          simp only [Bool.not_true, Bool.false_eq_true, if_false]
          exact hmain ⟨hQ.1, hQ.2.1, hQ.2.2, fun _ => hst⟩
        | false =>
          simp only [Bool.not_false, if_true]
          refine next _ (hskip fun hP => ?_)
          have := hP.2.2.2 hb
          rw [hst] at this; cases this
      · simp only [show (b == 4) = false by simpa using hb, Bool.false_eq_true, if_false, Option.bind_some]
        exact hmain ⟨hQ.1, hQ.2.1, hQ.2.2, fun h6 => absurd h6 hb⟩
    · have hc : ((((!true) || (y.Benefit != b)) || (decide (0 < i) && (y.Person != i))) || (decide (0 < ref) && (y.Ref != ref))) = true := by
        simp only [Bool.not_true, Bool.false_or, Bool.or_eq_true, Bool.and_eq_true, bne_iff_ne, decide_eq_true_eq, ne_eq]
        omega
      simp only [hc, if_true]
      exact next _ (hskip fun hP => hQ ⟨hP.1, hP.2.1, hP.2.2.1⟩)
  · left
    have : n = l.length := by omega
    subst this
    have hd0 : decide ((l.length : Int) < (l.length : Int)) = false := decide_eq_false (by omega)
    simp only [hd0, Bool.false_eq_true, if_false]
    rw [List.take_length] at hI
    exact ⟨x, rfl, hI⟩
/-- A list of the claims in effect of the keys behind: what the reference has gathered. -/
def Gat (l : List Claim) (p m : Int) (K : Claim → Prop) (n : Nat) (out : List Claim) : Prop :=
  (∀ c, c ∈ out ↔ Sel l p m c ∧ K c) ∧ out.Pairwise (fun a b => cmpK a b < 0) ∧ out.length ≤ n
theorem Gat_keep {l : List Claim} {p m : Int} {K K2 : Claim → Prop} {n : Nat} {out : List Claim} (h : Gat l p m K n out) (h2 : ∀ c, Sel l p m c → (K2 c ↔ K c)) : Gat l p m K2 (n + 1) out := by
  obtain ⟨h3, h4, h5⟩ := h
  refine ⟨fun c => ?_, h4, by omega⟩
  rw [h3]
  exact ⟨fun ⟨a, b⟩ => ⟨a, (h2 c a).2 b⟩, fun ⟨a, b⟩ => ⟨a, (h2 c a).1 b⟩⟩
theorem Gat_add {l : List Claim} {p m : Int} {K K2 : Claim → Prop} {n : Nat} {out : List Claim} {y : Claim} (h : Gat l p m K n out) (hy : Sel l p m y) (hK : ∀ c, K c → cmpK c y < 0) (h2 : ∀ c, Sel l p m c → (K2 c ↔ K c ∨ c = y)) : Gat l p m K2 (n + 1) (out ++ [y]) := by
  obtain ⟨h3, h4, h5⟩ := h
  refine ⟨fun c => ?_, ?_, by simp only [List.length_append, List.length_cons, List.length_nil]; omega⟩
  · rw [List.mem_append, h3, List.mem_singleton]
    constructor
    · rintro (⟨a, b⟩ | rfl)
      · exact ⟨a, (h2 c a).2 (.inl b)⟩
      · exact ⟨hy, (h2 c hy).2 (.inr rfl)⟩
    · rintro ⟨a, b⟩
      rcases (h2 c a).1 b with b | b
      · exact .inl ⟨a, b⟩
      · exact .inr b
  · rw [List.pairwise_append]
    refine ⟨h4, List.pairwise_singleton _ _, fun a ha b hb => ?_⟩
    rw [List.mem_singleton.1 hb]
    exact hK a ((h3 a).1 ha).2
theorem PLs_4 {r m : Int} (hr : 0 < r) : PLs 0 4 r m = fun d => d.Benefit = 4 ∧ d.Ref = r ∧ st m d = true := by
  funext d
  apply propext
  unfold PLs
  exact ⟨fun h => ⟨h.1, h.2.2.1 hr, h.2.2.2 rfl⟩, fun h => ⟨h.1, fun h0 => absurd h0 (by omega), fun _ => h.2.1, fun _ => h.2.2⟩⟩
theorem PLs_b {p b m : Int} (hp : 0 < p) (hb : b ≠ 4) : PLs p b 0 m = fun d => d.Benefit ≠ 4 ∧ d.Person = p ∧ d.Benefit = b := by
  funext d
  apply propext
  unfold PLs
  exact ⟨fun h => ⟨by rw [h.1]; exact hb, h.2.1 hp, h.1⟩, fun h => ⟨h.2.2, fun _ => h.2.1, fun h0 => absurd h0 (by omega), fun h0 => absurd h0 hb⟩⟩
theorem inner_eq (l : List Claim) (hl : l.length ≤ 12) (hok : ∀ c ∈ l, handOK c) (p m : Int) (hp : 0 < p) (rec : List Claim × Int → Option (List Claim)) (out : List Claim) (n : Nat) (hn : n ≤ 1000) (h : Gat l p m (fun c => c.Benefit < 4) n out) :
    ∃ o, loopC FU (pensionref26_Select_l2 l p m 4 rec) (out, 1) = rec (o, 5) ∧ Gat l p m (fun c => c.Benefit < 5) (n + 100) o := by
  refine loopC_innerFU (f := pensionref26_Select_l2 l p m 4 rec) (fun s => ∃ r : Nat, s.2 = (r : Int) ∧ 1 ≤ r ∧ r ≤ 100 ∧ Gat l p m (fun c => c.Benefit < 4 ∨ c.Benefit = 4 ∧ c.Ref < (r : Int)) (n + r) s.1) (fun s => 100 - s.2.toNat) (fun v => ∃ o, v = rec (o, 5) ∧ Gat l p m (fun c => c.Benefit < 5) (n + 100) o)
    ⟨1, rfl, by omega, by omega, Gat_keep h fun c hc => ?_⟩ (by show 100 - _ < _; omega) ?_
  · have := (hok c hc.mem).1.2.2.2
    (try simp only [])
    omega
  rintro ⟨out, r'⟩ rec2 ⟨r, hr', hr1, hr, hG⟩
  simp only at hr' hG
  subst hr'
  unfold pensionref26_Select_l2 pensionref26_Select_j2 pensionref26_Select_j
  dsimp only
  by_cases h99 : r ≤ 99
  · right
    have hd0 : decide ((r : Int) ≤ 99) = true := decide_eq_true (by omega)
    have e1 : i64 ((r : Int) + 1) = ((r + 1 : Nat) : Int) := by rw [i64_id (by omega) (by omega)]; simp
    obtain ⟨x, hx, hcase⟩ := least_eq l hl hok 0 4 (r : Int) m
    rw [PLs_4 (by omega)] at hcase
    simp only [hd0, if_true, hx, Option.bind_some, e1]
    have next : ∀ o : List Claim, Gat l p m (fun c => c.Benefit < 4 ∨ c.Benefit = 4 ∧ c.Ref < ((r + 1 : Nat) : Int)) (n + (r + 1)) o →
        ∃ s' : List Claim × Int, rec2 (o, ((r + 1 : Nat) : Int)) = rec2 s' ∧ (∃ r : Nat, s'.2 = (r : Int) ∧ 1 ≤ r ∧ r ≤ 100 ∧ Gat l p m (fun c => c.Benefit < 4 ∨ c.Benefit = 4 ∧ c.Ref < (r : Int)) (n + r) s'.1) ∧ 100 - s'.2.toNat < 100 - (r : Int).toNat :=
      fun o ho => ⟨_, rfl, ⟨r + 1, rfl, by omega, by omega, ho⟩, by simp only [Int.toNat_natCast]; omega⟩
    have hkeep : (∀ c, Sel l p m c → ¬ (c.Benefit = 4 ∧ c.Ref = (r : Int))) → Gat l p m (fun c => c.Benefit < 4 ∨ c.Benefit = 4 ∧ c.Ref < ((r + 1 : Nat) : Int)) (n + (r + 1)) out := by
      intro hno
      refine Gat_keep hG fun c hc => ?_
      have := hno c hc
      (try simp only [])
      omega
    rcases hcase with ⟨h1, h2⟩ | ⟨c, h1, h2, h3⟩
    · have hd1 : decide (0 ≤ x) = false := decide_eq_false (by omega)
      simp only [hd1, Bool.false_eq_true, if_false, Option.bind_some]
      refine next _ (hkeep fun c hc => ?_)
      rintro ⟨c1, c2⟩
      rcases hc with ⟨_, _, hm⟩ | ⟨hc, _⟩
      · have hm2 := hm.2.1
        (try simp only [] at hm2)
        exact h2 c hm.1 ⟨c1, c2, hm2.2.2⟩
      · exact hc c1
    · have hd1 : decide (0 ≤ x) = true := decide_eq_true h1
      simp only [hd1, if_true, h2, Option.bind_some]
      have hc4 := h3.2.1
      (try simp only [] at hc4)
      by_cases hpp : c.Person = p
      · rw [if_pos (by simpa using hpp), appI_of (by have := hG.2.2; simp only [List.length_cons, List.length_nil]; omega), Option.bind_some]
        have hS : Sel l p m c := .inl ⟨hc4.1, hpp, by rw [hc4.2.1]; exact h3⟩
        refine next _ (Gat_add hG hS (fun d hd => ?_) fun d hd => ?_)
        · rw [cmpK_neg]; (try simp only [] at hd); omega
        · (try simp only [])
          constructor
          · intro h4
            by_cases h5 : d.Benefit = 4 ∧ d.Ref = (r : Int)
            · exact .inr (Sel_key hd hS (by omega) (by omega))
            · exact .inl (by omega)
          · rintro (h4 | rfl) <;> omega
      · rw [if_neg (by simpa using hpp)]
        refine next _ (hkeep fun d hd => ?_)
        rintro ⟨d1, d2⟩
        rcases hd with ⟨_, d3, hm⟩ | ⟨hd, _⟩
        · rw [d2] at hm
          have := minIn_uniq hm h3
          rw [this] at d3
          exact hpp d3
        · exact hd d1
  · left
    have hd0 : decide ((r : Int) ≤ 99) = false := decide_eq_false (by omega)
    simp only [hd0, Bool.false_eq_true, if_false]
    rw [i64_id (n := 4 + 1) (by omega) (by omega)]
    have e : r = 100 := by omega
    subst e
    refine ⟨out, rfl, ?_⟩
    obtain ⟨g1, g2, g3⟩ := hG
    refine ⟨fun c => ?_, g2, g3⟩
    rw [g1]
    (try simp only [])
    constructor
    · rintro ⟨a, b⟩; exact ⟨a, by omega⟩
    · rintro ⟨a, b⟩
      have := (hok c a.mem).1.2.2.2
      exact ⟨a, by omega⟩
theorem Select_ref_loop (l : List Claim) (hl : l.length ≤ 12) (hok : ∀ c ∈ l, handOK c) (p m : Int) (hp : 0 < p) :
    ∃ o, loopC FU (pensionref26_Select_l l p m) ([], 1) = some o ∧ Gat l p m (fun c => c.Benefit < 6) 600 o := by
  refine loopC_FU (fun s => ∃ b : Nat, s.2 = (b : Int) ∧ 1 ≤ b ∧ b ≤ 6 ∧ Gat l p m (fun c => c.Benefit < (b : Int)) (100 * b) s.1) (fun s => 6 - s.2.toNat) _
    ⟨1, rfl, by omega, by omega, ⟨fun c => ?_, List.Pairwise.nil, by simp⟩⟩ (by show 6 - _ < _; omega) ?_
  · simp only [List.not_mem_nil, false_iff]
    rintro ⟨hc, h1⟩
    have := (hok c hc.mem).1.2.2.2
    omega
  rintro ⟨out, b'⟩ rec ⟨b, hb', hb1, hb6, hG⟩
  simp only at hb' hG
  subst hb'
  by_cases h5 : b ≤ 5
  · right
    have hd0 : decide ((b : Int) ≤ 5) = true := decide_eq_true (by omega)
    have e1 : i64 ((b : Int) + 1) = ((b + 1 : Nat) : Int) := by rw [i64_id (by omega) (by omega)]; simp
    have next : ∀ o : List Claim, Gat l p m (fun c => c.Benefit < ((b + 1 : Nat) : Int)) (100 * (b + 1)) o →
        ∃ s' : List Claim × Int, rec (o, ((b + 1 : Nat) : Int)) = rec s' ∧ (∃ b : Nat, s'.2 = (b : Int) ∧ 1 ≤ b ∧ b ≤ 6 ∧ Gat l p m (fun c => c.Benefit < (b : Int)) (100 * b) s'.1) ∧ 6 - s'.2.toNat < 6 - (b : Int).toNat :=
      fun o ho => ⟨_, rfl, ⟨b + 1, rfl, by omega, by omega, ho⟩, by simp only [Int.toNat_natCast]; omega⟩
    by_cases h4 : b = 4
    · subst h4
      obtain ⟨o, ho1, ho2⟩ := inner_eq l hl hok p m hp rec out (100 * 4) (by omega) hG
      obtain ⟨s', a1, a2, a3⟩ := next o ho2
      refine ⟨s', ?_, a2, a3⟩
      rw [← a1]
      unfold pensionref26_Select_l
      dsimp only
      rw [if_pos hd0, if_pos (by simp)]
      exact ho1
    · unfold pensionref26_Select_l pensionref26_Select_j
      generalize loopC FU = LP
      dsimp only
      have hb4 : ((b : Int) == 4) = false := by simp; omega
      obtain ⟨x, hx, hcase⟩ := least_eq l hl hok p (b : Int) 0 m
      rw [PLs_b hp (by omega)] at hcase
      simp only [hd0, if_true, hb4, Bool.false_eq_true, if_false, hx, Option.bind_some, e1]
      have hkeep : (∀ c, Sel l p m c → ¬ c.Benefit = (b : Int)) → Gat l p m (fun c => c.Benefit < ((b + 1 : Nat) : Int)) (100 * (b + 1)) out := by
        intro hno
        obtain ⟨g1, g2, g3⟩ := Gat_keep (K2 := fun c => c.Benefit < ((b + 1 : Nat) : Int)) hG fun c hc => by
          have := hno c hc
          (try simp only [])
          omega
        exact ⟨g1, g2, by omega⟩
      rcases hcase with ⟨h1, h2⟩ | ⟨c, h1, h2, h3⟩
      · have hd1 : decide (0 ≤ x) = false := decide_eq_false (by omega)
        simp only [hd1, Bool.false_eq_true, if_false, Option.bind_some]
        refine next _ (hkeep fun c hc hcb => ?_)
        rcases hc with ⟨hc, _⟩ | ⟨hc, _, hm⟩
        · omega
        · have hm2 := hm.2.1
          (try simp only [] at hm2)
          exact h2 c hm.1 ⟨hc, hm2.2.1, hcb⟩
      · have hd1 : decide (0 ≤ x) = true := decide_eq_true h1
        simp only [hd1, if_true, h2, Option.bind_some, st_ref (hok c h3.1)]
        have hc4 := h3.2.1
        (try simp only [] at hc4)
        cases hst : st m c with
        | true =>
          simp only [if_true]
          rw [appI_of (by have := hG.2.2; simp only [List.length_cons, List.length_nil]; omega), Option.bind_some]
          have hS : Sel l p m c := .inr ⟨hc4.1, hst, by rw [hc4.2.2]; exact h3⟩
          obtain ⟨g1, g2, g3⟩ := Gat_add (K2 := fun c => c.Benefit < ((b + 1 : Nat) : Int)) hG hS (fun d hd => by rw [cmpK_neg]; (try simp only [] at hd); omega) (fun d hd => by
            (try simp only [])
            constructor
            · intro h4
              by_cases h5 : d.Benefit = (b : Int)
              · exact .inr (Sel_key hd hS (by omega) (by omega))
              · exact .inl (by omega)
            · rintro (h4 | rfl) <;> omega)
          exact next _ ⟨g1, g2, by omega⟩
        | false =>
          simp only [Bool.false_eq_true, if_false]
          refine next _ (hkeep fun d hd hdb => ?_)
          rcases hd with ⟨hd, _⟩ | ⟨hd, d3, hm⟩
          · omega
          · rw [hdb] at hm
            have := minIn_uniq hm h3
            rw [this, hst] at d3
            cases d3
  · left
    have hd0 : decide ((b : Int) ≤ 5) = false := decide_eq_false (by omega)
    unfold pensionref26_Select_l
    generalize loopC FU = LP
    dsimp only
    simp only [hd0, Bool.false_eq_true, if_false]
    have e : b = 6 := by omega
    subst e
    exact ⟨out, rfl, hG⟩
/-- Both choose the same claims. -/
theorem Select_agree (l : List Claim) (hl : l.length ≤ 12) (hok : ∀ c ∈ l, handOK c) (p m : Int) : ∃ r, decision_Select l p m = some r ∧ pensionref26_Select l p m = some r ∧ r.length ≤ 600 := by
  unfold decision_Select pensionref26_Select pensionref1_ValidMonth
  simp only [Option.bind_some]
  by_cases hm : 0 ≤ m ∧ m ≤ 2399
  · rw [if_neg (by simp; omega)]
    obtain ⟨q, hq, hqs, hqm, hq12⟩ := sorted_eq l hl hok
    obtain ⟨r, hr, hrn, hrm, hrs⟩ := effective_eq q hqs hq12 (fun c hc => hok c ((hqm c).1 hc)) p m
    rw [hq, Option.bind_some, hr, Option.bind_some]
    have hrm2 : ∀ c, c ∈ r ↔ Sel l p m c := fun c => by rw [hrm, Sel_congr hqm]
    by_cases hp : 0 < p
    · rw [if_neg (by simp; omega)]
      obtain ⟨o, ho, g1, g2, g3⟩ := Select_ref_loop l hl hok p m hp
      have hmem : ∀ c, c ∈ r ↔ c ∈ o := by
        intro c
        rw [hrm2, g1]
        refine ⟨fun h => ⟨h, ?_⟩, fun h => h.1⟩
        have := (hok c h.mem).1.2.2.2
        (try simp only [])
        omega
      have hon : o.Nodup := g2.imp fun {a b} h e => by subst e; rw [cmpK_neg] at h; omega
      have hos : o.Pairwise (Le cmpK) := g2.imp fun {a b} h => by
        unfold Le
        rw [cmpK_neg] at h ⊢
        omega
      have hperm : r.Perm o := (List.perm_ext_iff_of_nodup hrn hon).2 hmem
      have heq : r = o := List.Perm.eq_of_pairwise (le := Le cmpK) (fun a b ha hb h1 h2 => by
        unfold Le at h1 h2
        rw [cmpK_neg] at h1 h2
        exact Sel_key ((hrm2 a).1 ha) ((hrm2 b).1 ((hmem b).2 hb)) (by omega) (by omega)) hrs hos hperm
      exact ⟨r, rfl, by rw [ho, heq], by rw [heq]; exact g3⟩
    · rw [if_pos (by simp; omega)]
      have : r = [] := by
        rw [List.eq_nil_iff_forall_not_mem]
        intro c hc
        have hS := (hrm2 c).1 hc
        have h1 := (hok c hS.mem).1.2.2.1
        rcases hS with ⟨_, h2, _⟩ | ⟨_, _, h2⟩
        · omega
        · have h3 := h2.2.1
          (try simp only [] at h3)
          omega
      exact ⟨[], by rw [this], rfl, by simp⟩
  · rw [if_pos (by simp; omega), if_pos (by simp; omega)]
    exact ⟨[], rfl, rfl, by simp⟩
theorem SameC_refl (o : List Claim) (hl : o.length ≤ 1000) : pensionplain_Same_of_api_Claim o o = some true := by
  unfold pensionplain_Same_of_api_Claim
  rw [if_neg (by simp)]
  obtain ⟨r, h1, h2⟩ := loopC_FU (f := pensionplain_Same_of_api_Claim_l o o) (fun s => ∃ x : Nat, s = (x : Int) ∧ x ≤ o.length) (fun s => o.length - s.toNat) (fun r => r = true) (s := 0) ⟨0, rfl, Nat.zero_le _⟩ (by show o.length - _ < _; omega) (by
    rintro s rec ⟨x, rfl, hx⟩
    unfold pensionplain_Same_of_api_Claim_l
    by_cases h : x < o.length
    · right
      have hg : getI o (x : Int) = some o[x] := by rw [getI_nat]; exact List.getElem?_eq_getElem h
      rw [if_pos (by simp; omega), hg]
      simp only [Option.bind_some, Claim_eqb, decide_true, Bool.not_true, Bool.false_eq_true, if_false]
      rw [i64_id (n := (x : Int) + 1) (by omega) (by omega)]
      exact ⟨((x + 1 : Nat) : Int), rfl, ⟨x + 1, rfl, h⟩, by simp only [Int.toNat_natCast]; omega⟩
    · left
      rw [if_neg (by simp; omega)]
      exact ⟨_, rfl, rfl⟩)
  rw [h1, h2]
theorem DecisionSelectAgrees_true (d : List pensionhand_Claim) (hd : d.length ≤ 9223372036854775807) (day person month : Int) : pensionlaw26_DecisionSelectAgrees d day person month = some true := by
  obtain ⟨l, hl, hl6, hok⟩ := Claims_ok d hd
  obtain ⟨a, ha, ha6, hok2⟩ := All_ok day
  have hlen : (l ++ a).length ≤ 12 := by simp [ha6]; omega
  have hall : ∀ c ∈ l ++ a, handOK c := fun c hc => (List.mem_append.1 hc).elim (hok c) (hok2 c)
  unfold pensionlaw26_DecisionSelectAgrees pensionlaw26_Person pensionlaw26_Month
  rw [hl, Option.bind_some, ha, Option.bind_some, appI_of (by omega), Option.bind_some, Mod_eq (by decide) (by decide), Mod_eq (by decide) (by decide), awake26]
  generalize l ++ a = q at hlen hall
  simp only [Option.bind_some]
  obtain ⟨r1, a1, a2, a3⟩ := Select_agree q hlen hall (i64 (1 + person % 4)) (i64 (1155 + month % 40))
  obtain ⟨r2, b1, b2, b3⟩ := Select_agree q hlen hall person month
  rw [a1, a2, b1, b2]
  simp only [Option.bind_some, if_true]
  rw [SameC_refl r1 (by omega), SameC_refl r2 (by omega)]
  rfl
end Go.PL
