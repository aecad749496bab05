/- Which sick days are paid: a law of days, one after the other; counts and the window. No program in sight. -/
import Derived.Test.YtndkbfbjjnhgoaaSpG
set_option linter.unusedVariables false
namespace Go.PL
open Go Go.Sort

/-- The sick days from a on, n days far. -/
def cntN (z : List Span) (a : Int) : Nat → Nat
  | 0 => 0
  | n + 1 => cntN z a n + (if inB z (a + n) = true then 1 else 0)
def cnt (z : List Span) (a b : Int) : Nat := cntN z a (b - a).toNat
theorem cnt_le {z : List Span} {a b : Int} (h : b ≤ a) : cnt z a b = 0 := by
  unfold cnt
  rw [show (b - a).toNat = 0 by omega]; rfl
theorem cnt_succ {z : List Span} {a d : Int} (h : a ≤ d) : cnt z a (d + 1) = cnt z a d + (if inB z d = true then 1 else 0) := by
  unfold cnt
  rw [show (d + 1 - a).toNat = (d - a).toNat + 1 by omega]
  show cntN z a (d - a).toNat + _ = _
  rw [show a + ((d - a).toNat : Int) = d by omega]
theorem cnt_skip {z : List Span} {a c d : Int} (h : c ≤ d) (hn : ∀ x, c ≤ x → x < d → inB z x = false) : cnt z a d = cnt z a c := by
  have key : ∀ n : Nat, (∀ x, c ≤ x → x < c + n → inB z x = false) → cnt z a (c + n) = cnt z a c := by
    intro n
    induction n with
    | zero => intro _; simp
    | succ n ih =>
      intro hx
      have e : c + ((n + 1 : Nat) : Int) = c + n + 1 := by omega
      rw [e]
      by_cases ha : a ≤ c + n
      · rw [cnt_succ ha, hx _ (by omega) (by omega), ih fun x h1 h2 => hx x h1 (by omega)]; rfl
      · rw [cnt_le (by omega), cnt_le (by omega)]
  have := key (d - c).toNat (fun x h1 h2 => hn x h1 (by omega))
  rw [show c + ((d - c).toNat : Int) = d by omega] at this
  exact this
theorem cnt_zero {z : List Span} {a d : Int} (hn : ∀ x, a ≤ x → x < d → inB z x = false) : cnt z a d = 0 := by
  by_cases h : a ≤ d
  · rw [cnt_skip h hn, cnt_le (Int.le_refl _)]
  · exact cnt_le (by omega)
/-- A day of the waiting time of its spell. -/
def wt (z sp : List Span) (d : Int) : Bool := sp.any fun s => (decide (s.From ≤ d) && decide (d < s.To)) && decide (cnt z s.From d < 3)
theorem Nrm_same {l : List Span} (h : Nrm l) {s t : Span} (hs : s ∈ l) (ht : t ∈ l) {x : Int} (h1 : s.From ≤ x ∧ x < s.To) (h2 : t.From ≤ x ∧ x < t.To) : s = t := by
  obtain ⟨i, hi, rfl⟩ := List.mem_iff_getElem.1 hs
  obtain ⟨j, hj, rfl⟩ := List.mem_iff_getElem.1 ht
  have hp := List.pairwise_iff_getElem.1 h.2
  rcases Nat.lt_trichotomy i j with h3 | h3 | h3
  · have := hp i j hi hj h3; omega
  · subst h3; rfl
  · have := hp j i hj hi h3; omega
theorem wt_of {z sp : List Span} (h : Nrm sp) {s : Span} (hs : s ∈ sp) {d : Int} (hd : s.From ≤ d ∧ d < s.To) : wt z sp d = decide (cnt z s.From d < 3) := by
  rw [Bool.eq_iff_iff]
  unfold wt
  rw [List.any_eq_true]
  constructor
  · rintro ⟨t, ht, h1⟩
    simp only [Bool.and_eq_true, decide_eq_true_eq] at h1
    have := Nrm_same h hs ht hd h1.1
    subst this
    simpa using h1.2
  · intro h1
    exact ⟨s, hs, by simp only [Bool.and_eq_true, decide_eq_true_eq] at h1 ⊢; exact ⟨hd, h1⟩⟩
/-- The paid days before a day. -/
def pzN (z sp : List Span) : Nat → List Int
  | 0 => []
  | n + 1 => if ((inB z n && !wt z sp n) && decide (((pzN z sp n).filter (fun x => decide ((n : Int) - 1094 ≤ x))).length < 546)) = true then pzN z sp n ++ [(n : Int)] else pzN z sp n
def pz (z sp : List Span) (d : Int) : List Int := pzN z sp d.toNat
theorem pz_succ {z sp : List Span} {d : Int} (h : 0 ≤ d) : pz z sp (d + 1) = if ((inB z d && !wt z sp d) && decide (((pz z sp d).filter (fun x => decide (d - 1094 ≤ x))).length < 546)) = true then pz z sp d ++ [d] else pz z sp d := by
  unfold pz
  rw [show (d + 1).toNat = d.toNat + 1 by omega]
  show (if _ then _ else _) = _
  rw [show ((d.toNat : Nat) : Int) = d by omega]
theorem pz_skip {z sp : List Span} {c d : Int} (h0 : 0 ≤ c) (h : c ≤ d) (hn : ∀ x, c ≤ x → x < d → inB z x = false) : pz z sp d = pz z sp c := by
  have key : ∀ n : Nat, (∀ x, c ≤ x → x < c + n → inB z x = false) → pz z sp (c + n) = pz z sp c := by
    intro n
    induction n with
    | zero => intro _; simp
    | succ n ih =>
      intro hx
      have e : c + ((n + 1 : Nat) : Int) = c + n + 1 := by omega
      rw [e, pz_succ (by omega), hx _ (by omega) (by omega), ih fun x h1 h2 => hx x h1 (by omega)]; rfl
  have := key (d - c).toNat (fun x h1 h2 => hn x h1 (by omega))
  rw [show c + ((d - c).toNat : Int) = d by omega] at this
  exact this
theorem pzN_mem {z sp : List Span} {x : Int} : ∀ {n : Nat}, x ∈ pzN z sp n → 0 ≤ x ∧ x < n ∧ inB z x = true ∧ wt z sp x = false
  | 0, h => by cases h
  | n + 1, h => by
    unfold pzN at h
    split at h
    · rename_i hc
      rcases List.mem_append.1 h with h | h
      · have := pzN_mem h; exact ⟨this.1, by omega, this.2.2⟩
      · rw [List.mem_singleton] at h; subst h
        simp only [Bool.and_eq_true, Bool.not_eq_true'] at hc
        exact ⟨by omega, by omega, hc.1⟩
    · have := pzN_mem h; exact ⟨this.1, by omega, this.2.2⟩
theorem pz_mem {z sp : List Span} {x d : Int} (h : x ∈ pz z sp d) : 0 ≤ x ∧ x < d ∧ inB z x = true ∧ wt z sp x = false := by
  have := pzN_mem h
  exact ⟨this.1, by omega, this.2.2⟩
theorem pzN_srt {z sp : List Span} : ∀ n, (pzN z sp n).Pairwise (· < ·)
  | 0 => .nil
  | n + 1 => by
    unfold pzN
    split
    · rw [List.pairwise_append]
      refine ⟨pzN_srt n, List.pairwise_singleton _ _, fun x hx y hy => ?_⟩
      rw [List.mem_singleton] at hy; subst hy
      exact (pzN_mem hx).2.1
    · exact pzN_srt n
theorem pz_srt {z sp : List Span} (d : Int) : (pz z sp d).Pairwise (· < ·) := pzN_srt _
theorem pz_len {z sp : List Span} {d : Int} (h : d ≤ 73049) : (pz z sp d).length ≤ 73049 := by
  have := srt_len (l := pz z sp d) (N := 73048) (lo := 0) (pz_srt d) (fun x hx => by have := pz_mem hx; omega) (by omega)
  omega
theorem filt_len {pre q : List Int} {b : Int} (h1 : ∀ x ∈ pre, x < b) (h2 : ∀ x ∈ q, b ≤ x) : ((pre ++ q).filter (fun x => decide (b ≤ x))).length = q.length := by
  rw [List.filter_append, List.filter_eq_nil_iff.2 (fun x hx => by have := h1 x hx; simp; omega), List.nil_append, List.filter_eq_self.2 (fun x hx => by have := h2 x hx; simp; omega)]

/-! ### the window of the program -/
theorem room_spec (q : List Int) (day : Int) (hq : q.Pairwise (· < ·)) (hl : q.length ≤ 2 ^ 40) (h0 : 0 ≤ day) (h1 : day ≤ 73049) :
    ∃ p q', q = p ++ q' ∧ sickness_window_room ⟨q⟩ day = some (decide (q'.length < 546), ⟨q'⟩) ∧ (∀ x ∈ p, x < day - 1094) ∧ ∀ x ∈ q', day - 1094 ≤ x := by
  unfold sickness_window_room
  have := loopC_FU (f := sickness_window_room_l day) (fun st => ∃ p q', q = p ++ q' ∧ st = ⟨q'⟩ ∧ ∀ x ∈ p, x < day - 1094) (fun st => st.days.length)
    (fun r => ∃ p q', q = p ++ q' ∧ r = (decide (q'.length < 546), (⟨q'⟩ : sickness_window)) ∧ (∀ x ∈ p, x < day - 1094) ∧ ∀ x ∈ q', day - 1094 ≤ x) (s := ⟨q⟩) ⟨[], q, rfl, rfl, fun x h => (by cases h)⟩ (by dsimp only; omega) ?_
  · obtain ⟨r, e, p, q', a, b, c⟩ := this
    exact ⟨p, q', a, by rw [e, b], c⟩
  · rintro st rec ⟨p, q', rfl, rfl, hp⟩
    unfold sickness_window_room_l
    dsimp only
    have el : decide ((q'.length : Int) < 546) = decide (q'.length < 546) := by rw [Bool.eq_iff_iff]; simp; omega
    cases q' with
    | nil =>
      left
      rw [if_neg (by simp), Option.bind_some, if_neg (by simp)]
      exact ⟨_, rfl, p, [], rfl, by simp, hp, fun x h => (by cases h)⟩
    | cons u q' =>
      rw [if_pos (by simp), show getI (u :: q') 0 = some u from rfl, Option.bind_some, Option.bind_some, i64_id (by omega) (by omega)]
      by_cases hc : u < day - 1094
      · right
        rw [if_pos (by simpa using hc), sliceI_of (by omega) (by simp; omega) (by omega), Option.bind_some]
        refine ⟨⟨q'⟩, by simp, ⟨p ++ [u], q', by simp, rfl, fun x hx => ?_⟩, by simp⟩
        rcases List.mem_append.1 hx with h | h
        · exact hp x h
        · rw [List.mem_singleton] at h; subst h; exact hc
      · left
        rw [if_neg (by simpa using hc)]
        refine ⟨_, rfl, p, u :: q', rfl, by rw [el], hp, fun x hx => ?_⟩
        have hs := (List.pairwise_append.1 hq).2.1
        rcases List.mem_cons.1 hx with h | h
        · omega
        · have := (List.pairwise_cons.1 hs).1 x h; omega

/-! ### what the program pays -/
/-- The program's state before a day. -/
def RelP (z sp : List Span) (c : Int) (out : List Span) (v : sickness_window) : Prop := out = (pz z sp c).map (fun d => (⟨d, d + 1⟩ : Span)) ∧ ∃ pre, pz z sp c = pre ++ v.days ∧ ∀ x ∈ pre, x < c - 1094
theorem RelP.skip {z sp : List Span} {c d : Int} {out : List Span} {v : sickness_window} (h : RelP z sp c out v) (h0 : 0 ≤ c) (hd : c ≤ d) (hn : ∀ x, c ≤ x → x < d → inB z x = false) : RelP z sp d out v := by
  obtain ⟨h1, pre, h2, h3⟩ := h
  unfold RelP
  rw [pz_skip h0 hd hn]
  exact ⟨h1, pre, h2, fun x hx => by have := h3 x hx; omega⟩
/-- One more sick day of the spell y. -/
theorem inB_false {z : List Span} {x : Int} : inB z x = false ↔ ¬ InS z x := by rw [← inB_iff, Bool.not_eq_true]
set_option maxHeartbeats 2000000 in
theorem pay_days {z sp : List Span} (hsp : Nrm sp) {y : Span} (hy : y ∈ sp) {s : Span} (hs0 : y.From ≤ s.From) (hs1 : s.To ≤ y.To) (hlt : s.From < s.To) (hz : ∀ x, s.From ≤ x → x < s.To → inB z x = true) (x2 : Int)
    (rec : ((List Span) × Int × Int × sickness_window) → Option (List Span)) (out : List Span) (wait : Int) (v : sickness_window) (hR : RelP z sp s.From out v) (hw : wait = 3 - min 3 (cnt z y.From s.From : Int)) :
    ∃ out' wait' v', loopC FU (sickness_Payable_l3 x2 rec s) (out, wait, s.From, v) = rec (out', wait', i64 (x2 + 1), v') ∧ RelP z sp s.To out' v' ∧ wait' = 3 - min 3 (cnt z y.From s.To : Int) := by
  have hyr := hsp.1 y hy
  refine loopC_innerFU (f := sickness_Payable_l3 x2 rec s) (fun st => ∃ out wait day v, st = (out, wait, day, v) ∧ s.From ≤ day ∧ day ≤ s.To ∧ RelP z sp day out v ∧ wait = 3 - min 3 (cnt z y.From day : Int)) (fun st => (s.To - st.2.2.1).toNat)
    (fun o => ∃ out' wait' v', o = rec (out', wait', i64 (x2 + 1), v') ∧ RelP z sp s.To out' v' ∧ wait' = 3 - min 3 (cnt z y.From s.To : Int)) ⟨out, wait, s.From, v, rfl, by omega, by omega, hR, hw⟩ (by dsimp only; omega) ?_
  rintro st rc ⟨out, wait, day, v, rfl, h1, h2, hR, hw⟩
  unfold sickness_Payable_l3 sickness_Payable_j
  dsimp only
  by_cases hc : day < s.To
  · right
    rw [if_pos (by simpa using hc), i64_id (n := day + 1) (by omega) (by omega)]
    have hin := hz day h1 hc
    have hcs : cnt z y.From (day + 1) = cnt z y.From day + 1 := by rw [cnt_succ (by omega), hin]; rfl
    have hwt := wt_of (z := z) hsp hy (d := day) (by omega)
    obtain ⟨r1, pre, r2, r3⟩ := hR
    by_cases hwz : 0 < wait
    · rw [if_pos (by simpa using hwz), i64_id (n := wait - 1) (by omega) (by omega)]
      have hp : pz z sp (day + 1) = pz z sp day := by
        rw [pz_succ (by omega), hwt, show decide (cnt z y.From day < 3) = true by simp; omega]; simp
      refine ⟨_, rfl, ⟨_, _, _, _, rfl, by omega, by omega, ?_, by omega⟩, by dsimp only; omega⟩
      unfold RelP; rw [hp]
      exact ⟨r1, pre, r2, fun x hx => by have := r3 x hx; omega⟩
    · rw [if_neg (by simpa using hwz)]
      have hpl := pz_len (z := z) (sp := sp) (d := day) (by omega)
      have hvl : v.days.length ≤ 73049 := by rw [r2, List.length_append] at hpl; omega
      have hps := pz_srt (z := z) (sp := sp) day
      rw [r2, List.pairwise_append] at hps
      obtain ⟨p, q', e1, e2, e3, e4⟩ := room_spec v.days day hps.2.1 (by omega) (by omega) (by omega)
      have e2' : sickness_window_room v day = some (decide (q'.length < 546), ⟨q'⟩) := e2
      have hfl : ((pz z sp day).filter (fun x => decide (day - 1094 ≤ x))).length = q'.length := by
        rw [r2, e1, ← List.append_assoc]
        exact filt_len (fun x hx => by
          rcases List.mem_append.1 hx with h | h
          · exact r3 x h
          · exact e3 x h) e4
      have hps' := pz_succ (z := z) (sp := sp) (d := day) (by omega)
      rw [hfl, hin, hwt, show decide (cnt z y.From day < 3) = false by simp; omega] at hps'
      rw [e2', Option.bind_some]
      dsimp only
      have hpre : ∀ x ∈ pre ++ p, x < day - 1094 := fun x hx => by
        rcases List.mem_append.1 hx with h | h
        · exact r3 x h
        · exact e3 x h
      have hol : out.length ≤ 73049 := by rw [r1, List.length_map]; exact hpl
      have hql : q'.length ≤ 73049 := by rw [e1, List.length_append] at hvl; omega
      by_cases hr : q'.length < 546
      · rw [if_pos (by simpa using hr), appI_of (by simp; omega), Option.bind_some, appI_of (by simp; omega), Option.bind_some]
        rw [if_pos (by simpa using hr)] at hps'
        refine ⟨_, rfl, ⟨_, _, _, _, rfl, by omega, by omega, ?_, by omega⟩, by dsimp only; omega⟩
        refine ⟨by rw [hps', List.map_append, ← r1]; rfl, pre ++ p, by rw [hps', r2, e1]; simp, fun x hx => by have := hpre x hx; omega⟩
      · rw [if_neg (by simpa using hr)]
        rw [if_neg (by simpa using hr)] at hps'
        refine ⟨_, rfl, ⟨_, _, _, _, rfl, by omega, by omega, ?_, by omega⟩, by dsimp only; omega⟩
        refine ⟨by rw [hps', r1], pre ++ p, by rw [hps', r2, e1]; simp, fun x hx => by have := hpre x hx; omega⟩
  · left
    rw [if_neg (by simpa using hc)]
    have : day = s.To := by omega
    subst this
    exact ⟨out, wait, v, rfl, hR, hw⟩
end Go.PL
