/- Texts of the proof, joined. -/
import Derived.Test.YtlgbkcdjlicghaaGreatDoorP1
import Derived.Great.FillDense
import Derived.Great.BuildSlice
set_option linter.unusedVariables false
set_option linter.unusedSimpArgs false
set_option maxRecDepth 100000
namespace Go.SX
open Go Go.PL
section
variable {P : Program} {U : Uni} {E : Env} {Z : Nat -> Prop} {π : Nat -> Value} {σ : U.St} {ρ : Nat -> Value} {w : World}
variable {d : Option Tmp} {ty : TypeId} {ps : String} {af : Array Edge} {g : Option (Nat × Bool)} {x y z : Operand} {m0 m : Nat} {a b v : U.AV} {ws : List (Nat × U.MC)} {fr : Nat}
theorem c4s {id i : Nat} {mc m' : U.MC} (h : lk i [(id, mc)] = some m') : i = id /\ m' = mc := by
  have := a98 h
  simp at this
  exact this
theorem d12 (id : Nat) (mc : U.MC) : lk id [(id, mc)] = some mc := by
  show (bif Nat.beq id id then some mc else none) = _
  rw [show Nat.beq id id = true from Nat.beq_refl id]; rfl
theorem Rel.set (h : Rel E Z π σ ρ w) {id : Nat} {mc : U.MC} {w' : World} {v' : Value} (hu : b8q σ id) (hnn : mc ≠ .never) (hE : Ext (fun b => MB (σ.mem id) (π id) b) w w')
    (hm : ∀ X' : Cx, (cx Z π σ w).Le X' -> X'.w = w' -> MR X' mc (π id)) (hb : ∀ b, MB mc (π id) b -> MB (σ.mem id) (π id) b) {d : Option Tmp} (ha : ∀ X' : Cx, (cx Z π σ w).Le X' -> AVR X' a v') :
    Rel E Z π (σ.app d a [(id, mc)]) (c8p ρ d v') w' := by
  have hle : (cx Z π σ w).Le (cx Z π (σ.app d a [(id, mc)]) w') := by
    refine ⟨fun _ hb => hb, hE.mono fun b hb hz => (h.own id b hb).1 hz, fun i hi => ⟨?_, rfl⟩⟩
    show (σ.app d a [(id, mc)]).mem i ≠ .never
    rw [a2e]
    cases hl : lk i [(id, mc)] with
    | none => exact hi
    | some m' => obtain ⟨_, rfl⟩ := c4s hl; exact hnn
  refine h.next (hE.mono fun b hb => ⟨id, mc, d12 id mc, hb⟩) (fun _ hb => hb) (fun _ hb => .inl hb) (fun _ _ => rfl) (fun i m' hl => ?_) (fun i m' hl => ?_) (fun i m' b hl hb' => ?_) (fun i i' m1 m2 b hne hl hl' _ _ => ?_) (ha _ hle)
  . obtain ⟨_, rfl⟩ := c4s hl; exact hnn
  . obtain ⟨rfl, rfl⟩ := c4s hl; exact hm _ hle rfl
  . obtain ⟨rfl, rfl⟩ := c4s hl
    obtain ⟨h1, h2, h3⟩ := h.own i b (hb b hb')
    exact ⟨h1, Nat.lt_of_lt_of_le h2 hE.size, .inr ⟨i, _, d12 i _, hb b hb'⟩⟩
  . obtain ⟨rfl, rfl⟩ := c4s hl
    obtain ⟨rfl, rfl⟩ := c4s hl'
    exact hne rfl
theorem e4a (hU : UOK U) {X : Cx} {c : U.C} {as : List U.AV} {css : List (List Value)} (hlay : as.map a0n = U.lay c) (hp : as.all a0h = true) (hr : q9 (fun a s => ∃ u : Value, u.cells.toList = s /\ b4c X a u) as css) : (Value.agg css.flatten.toArray).cells.toList.length = U.n c := by
  show css.flatten.toArray.toList.length = _
  rw [b4o, e66 hr hp, hlay, hU.sum]
theorem c3c {X : Cx} {u : Value} (hp : a90 a = true) (h : a36 X a u) : (a0h a = true /\ b4c X a u) \/ ∃ c as css, a = .st c as /\ u = .agg css.flatten.toArray /\ as.map a0n = U.lay c /\ as.all a0h = true /\ q9 (fun a s => ∃ u : Value, u.cells.toList = s /\ b4c X a u) as css := by
  cases hs : a with
  | st c as =>
    subst hs
    obtain ⟨css, h1, h2, h3, h4⟩ := h
    exact .inr ⟨c, as, css, rfl, h1, h2, h3, h4⟩
  | _ =>
    subst hs
    first
      | (cases hp; done)
      | exact .inl ⟨rfl, a36.to0 rfl h⟩
theorem d23 (hU : UOK U) {X : Cx} {u : Value} (hp : a90 a = true) (h : a36 X a u) : u.cells.toList.length = asz a := by
  rcases c3c hp h with ⟨h1, h2⟩ | ⟨c, as, css, rfl, rfl, hlay, hpp, hr⟩
  . exact b9d h1 h2
  . exact e4a hU hlay hpp hr
theorem d3r {X : Cx} {a : U.AV} {u : Value} (hp : a0h a = true) (h : b4c X a u) : ∀ q ∈ u.cells.toList, q.oneCell' = true := by
  cases hv : a6a a with
  | true =>
    cases a <;> try (cases hv; done)
    case st => exact h.elim
    obtain ⟨cs, hu, hr⟩ := h
    subst hu
    intro q hq
    exact e6k hr q (by simpa [Value.cells] using hq)
  | false =>
    have h1 : u.oneCell' = true := by
      cases a <;> first
        | (cases hp; done)
        | (cases hv; done)
        | (have h : u = _ := h; subst h; rfl)
        | exact d8h h
        | (obtain ⟨ad, cs, h, _⟩ := h; subst h; rfl)
        | (obtain ⟨_, _, h1⟩ := h; exact h1)
    rw [c3k h1]
    intro q hq
    simp at hq; subst hq; exact h1
theorem d29 {X : Cx} {u : Value} (hp : a90 a = true) (h : a36 X a u) : ∀ q ∈ u.cells.toList, q.oneCell' = true := by
  rcases c3c hp h with ⟨h1, h2⟩ | ⟨c, as, css, rfl, rfl, hlay, hpp, hr⟩
  . exact d3r h1 h2
  . intro q hq
    have hq : q ∈ css.flatten := by simpa [Value.cells] using hq
    clear hlay hp h
    induction as generalizing css with
    | nil => cases css with
      | nil => cases hq
      | cons _ _ => exact hr.elim
    | cons a as ih => cases css with
      | nil => exact hr.elim
      | cons s css =>
        simp only [List.all_cons, Bool.and_eq_true] at hpp
        rcases List.mem_append.1 (by simpa using hq : q ∈ s ++ css.flatten) with hq | hq
        . obtain ⟨u, hu, h0⟩ := hr.1
          exact d3r hpp.1 h0 q (by rw [hu]; exact hq)
        . exact ih css hpp.2 hr.2 (by simp [Value.cells] at hq ⊢; exact hq) hq
theorem b9e {α β : Type} {p : α -> β -> Prop} : ∀ {l : List α} {r : List β} (n : Nat) (a : α) (b : β), q9 p l r -> p a b -> q9 p (l.set n a) (r.set n b)
  | [], [], _, _, _, _, _ => trivial
  | _ :: _, _ :: _, 0, _, _, h, hp => ⟨hp, h.2⟩
  | _ :: _, _ :: _, n + 1, a, b, h, hp => ⟨h.1, b9e n a b h.2 hp⟩
  | [], _ :: _, _, _, _, h, _ => h.elim
  | _ :: _, [], _, _, _, h, _ => h.elim
theorem b2f : ∀ (css : List (List Value)) (n : Nat) (s t : List Value), css[n]? = some s -> t.length = s.length ->
    (css.set n t).flatten = css.flatten.take ((css.take n).flatten.length) ++ t ++ css.flatten.drop ((css.take n).flatten.length + t.length)
  | [], n, s, t, h, _ => by simp at h
  | c :: css, 0, s, t, h, hl => by
    simp at h; subst h
    simp [hl]
  | c :: css, n + 1, s, t, h, hl => by
    have ih := b2f css n s t (by simpa using h) hl
    simp only [List.set_cons_succ, List.flatten_cons, List.take_succ_cons, List.length_append, ih]
    rw [List.take_length_add_append, Nat.add_assoc, List.drop_length_add_append]
    simp only [List.append_assoc]
theorem e12 {cs : List Value} {o k o' : Nat} {t : List Value} (h1 : o + k <= cs.length) (h2 : o' + t.length <= k) :
    cs.take o ++ (((cs.drop o).take k).take o' ++ t ++ ((cs.drop o).take k).drop (o' + t.length)) ++ cs.drop (o + k) = cs.take (o + o') ++ t ++ cs.drop (o + o' + t.length) := by
  have e1 : ((cs.drop o).take k).take o' = (cs.drop o).take o' := by rw [List.take_take, Nat.min_eq_left (by omega)]
  have e2 : ((cs.drop o).take k).drop (o' + t.length) ++ cs.drop (o + k) = cs.drop (o + o' + t.length) := by
    rw [List.drop_take, List.drop_drop]
    have : cs.drop (o + k) = (cs.drop (o + (o' + t.length))).drop (k - (o' + t.length)) := by rw [List.drop_drop]; congr 1; omega
    rw [this, List.take_append_drop, Nat.add_assoc]
  rw [e1, List.take_add]
  simp only [List.append_assoc]
  rw [e2]
theorem d78 : ∀ (css : List (List Value)) (n : Nat) (s : List Value), css[n]? = some s -> (css.flatten.drop ((css.take n).flatten.length)).take s.length = s /\ (css.take n).flatten.length + s.length <= css.flatten.length
  | [], n, s, h => by simp at h
  | c :: css, 0, s, h => by
    simp at h; subst h
    simp
  | c :: css, n + 1, s, h => by
    obtain ⟨h1, h2⟩ := d78 css n s (by simpa using h)
    simp only [List.take_succ_cons, List.flatten_cons, List.length_append]
    refine ⟨?_, by omega⟩
    rw [List.drop_length_add_append]
    exact h1
def FV (X : Cx) (a : U.AV) (s : List Value) : Prop := s.length = asz a /\ ∃ u : Value, u.cells.toList = s /\ a36 X a u
theorem f2y {X : Cx} {as : List U.AV} {css : List (List Value)} (h : q9 (FV X) as css) (n : Nat) : (css.take n).flatten.length = (((as.map a0n).take n).map osz).sum := by
  induction as generalizing css n with
  | nil => cases css with
    | nil => simp
    | cons _ _ => exact h.elim
  | cons a as ih => cases css with
    | nil => exact h.elim
    | cons c css => cases n with
      | zero => simp
      | succ n =>
        simp only [List.take_succ_cons, List.flatten_cons, List.length_append, List.map_cons, List.sum_cons, ih h.2 n, a8c, h.1.1]
theorem e4v {X : Cx} {c : U.C} {as : List U.AV} {css : List (List Value)} {n : Nat} {b1 b1' : U.AV} {o' : Nat} {t : List Value} (hall : q9 (FV X) as css) (hlay : as.map a0n = U.lay c) (hb : as[n]? = some b1) (hsz : asz b1 = asz b1')
    (hrec : ∀ s, css[n]? = some s -> FV X b1 s -> (∃ u1 : Value, u1.cells.toList = s.take o' ++ t ++ s.drop (o' + t.length) /\ a36 X b1' u1) /\ o' + t.length <= s.length) :
    ∃ css', q9 (FV X) (as.set n b1') css' /\ css'.flatten = css.flatten.take (off c n + o') ++ t ++ css.flatten.drop (off c n + o' + t.length) /\ off c n + o' + t.length <= css.flatten.length := by
  obtain ⟨s, hs, hv⟩ := hall.get hb
  obtain ⟨⟨u1, hu1, hr1⟩, hle⟩ := hrec s hs hv
  have hL : off c n = (css.take n).flatten.length := by rw [f2y hall n, hlay]; rfl
  obtain ⟨g1, g2⟩ := d78 css n s hs
  have hlen : u1.cells.toList.length = s.length := by
    rw [hu1]
    simp only [List.length_append, List.length_take, List.length_drop]
    omega
  refine ⟨css.set n u1.cells.toList, b9e n b1' _ hall ⟨by rw [hlen, hv.1, hsz], u1, rfl, hr1⟩, ?_, by omega⟩
  rw [b2f css n s _ hs hlen, hlen, <- hL, hu1]
  have := e12 (cs := css.flatten) (o := off c n) (k := s.length) (o' := o') (t := t) (by omega) hle
  rw [hL] at this ⊢
  rw [g1] at this
  exact this
theorem b8p (hU : UOK U) {X : Cx} {as : List U.AV} {css : List (List Value)} (h : q9 (k8 Rp X.G X.w) as css) : q9 (FV X) as css := h.mono fun a s hh => ⟨a7y hU hh, by
    obtain ⟨u, h1, h2⟩ := a3l hh
    exact ⟨u, h1, h2⟩⟩
theorem c1s {X : Cx} : ∀ {as : List U.AV} {css : List (List Value)}, as.all a0h = true -> q9 (fun a s => ∃ u : Value, u.cells.toList = s /\ b4c X a u) as css -> q9 (FV X) as css
  | [], [], _, _ => trivial
  | a :: as, s :: css, hp, h => by
    simp only [List.all_cons, Bool.and_eq_true] at hp
    obtain ⟨u, hu, hr⟩ := h.1
    exact ⟨⟨by rw [<- hu]; exact b9d hp.1 hr, u, hu, .of0 hr⟩, c1s hp.2 h.2⟩
  | [], _ :: _, _, h => h.elim
  | _ :: _, [], _, h => h.elim
theorem d2h {X : Cx} : ∀ {as : List U.AV} {css : List (List Value)}, as.all a0h = true -> q9 (FV X) as css -> q9 (fun a s => ∃ u : Value, u.cells.toList = s /\ b4c X a u) as css
  | [], [], _, _ => trivial
  | a :: as, s :: css, hp, h => by
    simp only [List.all_cons, Bool.and_eq_true] at hp
    obtain ⟨_, u, hu, hr⟩ := h.1
    exact ⟨⟨u, hu, hr.to0 hp.1⟩, d2h hp.2 h.2⟩
  | [], _ :: _, _, h => h.elim
  | _ :: _, [], _, h => h.elim
theorem d81 {α β : Type} (f : α -> β) : ∀ (l : List α) (n : Nat) (a b : α), l[n]? = some a -> f b = f a -> (l.set n b).map f = l.map f
  | [], n, a, b, h, _ => by simp at h
  | x :: l, 0, a, b, h, e => by simp at h; subst h; simp [e]
  | x :: l, n + 1, a, b, h, e => by simp only [List.set_cons_succ, List.map_cons]; rw [d81 f l n a b (by simpa using h) e]
theorem d6m {α : Type} (p : α -> Bool) : ∀ (l : List α) (n : Nat) (b : α), l.all p = true -> p b = true -> (l.set n b).all p = true
  | [], n, b, _, _ => rfl
  | x :: l, 0, b, h, e => by simp only [List.all_cons, Bool.and_eq_true, List.set_cons_zero] at h ⊢; exact ⟨e, h.2⟩
  | x :: l, n + 1, b, h, e => by simp only [List.all_cons, Bool.and_eq_true, List.set_cons_succ] at h ⊢; exact ⟨h.1, d6m p l n b h.2 e⟩
theorem c6a {a b : U.AV} (h : c6n a b = true) : a0n a = a0n b := by
  unfold c6n at h
  split at h
  . rename_i h1 h2; rw [h1, h2]
  . rename_i c c' h1 h2
    rw [h1, h2, b5h h]
  . cases h
theorem c1r (hU : UOK U) {X : Cx} {ub : Value} (hb : a36 X b ub) (hp : a90 b = true) : ∀ (p : List PE) (a : U.AV) (c : U.C) (cs : List Value) (a' : U.AV), cs.length = asz a -> (p ≠ [] -> ∃ u : Value, u.cells.toList = cs /\ a36 X a u) -> c42 b a p = some a' -> (p = [] \/ a0n a = some c) -> asz a = asz a' ->
    (∃ u', u'.cells.toList = cs.take (b0k c p) ++ ub.cells.toList ++ cs.drop (b0k c p + ub.cells.toList.length) /\ a36 X a' u') /\ b0k c p + ub.cells.toList.length <= cs.length /\ (p = [] -> a' = b)
  | [], a, c, cs, a', hl, _, hup, _, hsz => by
    cases hup
    have h1 := d23 hU hp hb
    refine ⟨⟨ub, ?_, hb⟩, ?_, fun _ => rfl⟩
    . simp only [b0k, List.take_zero, List.nil_append, Nat.zero_add]
      rw [List.drop_eq_nil_of_le (by omega), List.append_nil]
    . simp only [b0k]; omega
  | .f n :: p, a, c, cs, a', hl, hr, hup, hc, hsz => by
    replace hc : a0n a = some c := hc.resolve_left (fun h => by cases h)
    obtain ⟨u, hu, hr0⟩ := hr (by simp)
    clear hr
    have go : ∀ (as : List U.AV) (css : List (List Value)) (b1 b1' : U.AV), q9 (FV X) as css -> as.map a0n = U.lay c -> css.flatten = cs -> as[n]? = some b1 -> c42 b b1 p = some b1' -> asz b1 = asz b1' ->
        ∃ css', q9 (FV X) (as.set n b1') css' /\ css'.flatten = cs.take (b0k c (.f n :: p)) ++ ub.cells.toList ++ cs.drop (b0k c (.f n :: p) + ub.cells.toList.length) /\ b0k c (.f n :: p) + ub.cells.toList.length <= cs.length := by
      intro as css b1 b1' hall hlay hcs hb1 hb2 hsb
      have hcode : (U.lay c)[n]? = some (a0n b1) := by rw [<- hlay, List.getElem?_map, hb1]; rfl
      have hpre : p = [] \/ a0n b1 = some ((a0n b1).getD c) := by
        cases p with
        | nil => exact .inl rfl
        | cons q p =>
          right
          cases b1 <;> first
            | rfl
            | (cases q <;> cases hb2)
      have hoff : b0k c (.f n :: p) = off c n + b0k ((a0n b1).getD c) p := by
        simp only [b0k, hcode]
        cases hcb : a0n b1 with
        | some c1 => rfl
        | none =>
          rcases hpre with rfl | h1
          . rfl
          . rw [hcb] at h1; cases h1
      rw [hoff]
      subst hcs
      refine e4v hall hlay hb1 hsb fun s hs hv => ?_
      obtain ⟨h1, h2, _⟩ := c1r hU hb hp p b1 ((a0n b1).getD c) s b1' hv.1 (fun _ => hv.2) hb2 hpre hsb
      exact ⟨h1, h2⟩
    cases a <;> try (cases hc; done)
    case val c' xv =>
      cases hc
      simp only [c42] at hup
      split at hup
      . rename_i b1 hb1
        split at hup
        . rename_i b1' hb2
          split at hup
          . rename_i hszb
            simp only [Bool.and_eq_true] at hszb
            cases hmk : U.mkv c ((U.flds c xv).set n b1') with
            | none => rw [hmk] at hup; cases hup
            | some yv =>
              rw [hmk] at hup
              cases hup
              obtain ⟨cs0, hcs0, hrep⟩ := hr0
              rw [hcs0] at hu
              have hu : cs0 = cs := by simpa [Value.cells] using hu
              subst hu
              obtain ⟨_, css, hcs, hall⟩ := b5a.1 hrep
              obtain ⟨css', h1, h2, h3⟩ := go _ css b1 b1' (b8p hU hall) (hU.lay c xv) hcs.symm hb1 hb2 (Nat.eq_of_beq_eq_true hszb.1)
              refine ⟨⟨.agg css'.flatten.toArray, by rw [<- h2]; simp [Value.cells], css'.flatten, rfl, c4t hU hmk (h1.mono fun _ _ h => h.2)⟩, h3, fun h => by cases h⟩
          . cases hup
        . cases hup
      . cases hup
    case st c' as =>
      cases hc
      simp only [c42] at hup
      split at hup
      . rename_i b1 hb1
        split at hup
        . rename_i b1' hb2
          split at hup
          . rename_i hsc
            simp only [Bool.and_eq_true] at hsc
            have hco := c6a hsc.1
            cases hup
            obtain ⟨css, hcs0, hlay, hpp, hrr⟩ := hr0
            rw [hcs0] at hu
            have hu : css.flatten = cs := by simpa [Value.cells] using hu
            obtain ⟨css', h1, h2, h3⟩ := go _ css b1 b1' (c1s hpp hrr) hlay hu hb1 hb2 (by rw [<- a8c, <- a8c, hco])
            have hpp' := d6m a0h as n b1' hpp hsc.2
            refine ⟨⟨.agg css'.flatten.toArray, by rw [<- h2]; simp [Value.cells], css', rfl, ?_, hpp', d2h hpp' h1⟩, h3, fun h => by cases h⟩
            rw [d81 a0n as n b1 b1' hb1 hco.symm]; exact hlay
          . cases hup
        . cases hup
      . cases hup
  | .i n :: p, a, c, cs, a', hl, hr, hup, hc, hsz => by
    cases a <;> cases hup
theorem a8d {t : TypeId} (h : b4d P t a = true) : a90 a = true /\ f0n P t (a6a a) = true /\ d6e P t (asz a) = true := by
  unfold b4d at h
  simp only [Bool.and_eq_true] at h
  exact ⟨h.1.1, h.1.2, h.2⟩
theorem c3h (hU : UOK U) {t : TypeId} {u : Value} (hf : b4d P t a = true) {X : Cx} (h : a36 X a u) (ad : Addr) (w : World) : (Instr.storeAt t (.pointer (some ad)) u).run P w = (storeCells ad u.cells.toList).run P w := by
  obtain ⟨hp, _, hs⟩ := a8d hf
  have hl := d23 hU hp h
  simp [Instr.storeAt, Instr.sureAddr, storeVar, b38 hs, <- hl]
theorem c65 {G : Nat -> Prop} {o : Oper} {Φ : World -> Prop} (h : ∀ (F : List Fact) (p : Plan), F[0]? = some (0, fun _ w' => Φ w') -> p.mu.contains 0 = true -> a6r P ⟨none, o.op, o.type, o.pos, o.after, o.guard⟩ (ev ρ) w fun v w' => Ext (if p.mu.contains 0 then G else noG) w w' /\ e5g F 0 (c8p ρ none v) w') :
    a6r P o (ev ρ) w fun v w' => Ext G w w' /\ Φ w' := by
  have h1 := h [(0, fun _ w' => Φ w')] (.plain [] [] [] [0] []) rfl rfl
  exact h1.mono fun v w' ⟨h2, h3⟩ => ⟨h2, h3⟩
theorem c9g (hU : UOK U) (h : Rel E Z π σ ρ w) {t t0 : TypeId} {id : Nat} {c : U.C} {p : List PE} {a0 a1 : U.AV} {ub : Value} {ad : Addr} (hmem : σ.mem id = .box t0 a0) (hc : p = [] \/ a0n a0 = some c)
    (hf : b4d P t b = true) (hup : c42 b a0 p = some a1) (hsz : (Nat.beq (asz a0) (asz a1) && (a6a a0 == a6a a1) && a90 a0) = true) (hb : a36 (cx Z π σ w) b ub) (hy : ev ρ y = ub) (had : c1g (π id) = some ad) (hx : ev ρ x = .pointer (some (ad.add (b0k c p)))) (hu : b8q σ id) :
    a78 P E σ ρ w ⟨d, .store t x y, ty, ps, af, g⟩ .undef [(id, .box t0 a1)] := by
  have hm := h.mem id
  rw [hmem] at hm
  obtain ⟨blk, u, hv, hM, ha⟩ := hm
  rw [hv] at had
  cases had
  simp only [Bool.and_eq_true] at hsz
  have hpl := hsz.2
  have hlen := d23 hU hpl ha
  have hfr : p ≠ [] -> ∃ u' : Value, u'.cells.toList = u.cells.toList /\ a36 (cx Z π σ w) a0 u' := fun hp => ⟨u, rfl, ha⟩
  obtain ⟨⟨u', hu', hr'⟩, hle, _⟩ := c1r hU hb (a8d hf).1 p a0 c _ a1 hlen hfr hup hc (Nat.eq_of_beq_eq_true hsz.1.1)
  have hY := c65 (P := P) (ρ := ρ) (w := w) (G := fun q => q = blk) (o := ⟨d, .store t x y, ty, ps, af, g⟩) (Φ := fun w' => Mb w' blk t0 (u.cells.toList.take (b0k c p) ++ ub.cells.toList ++ u.cells.toList.drop (b0k c p + ub.cells.toList.length)))
    fun F pl hF hmu => b7a hF hmu (fun _ h => h) hx rfl hy hM (fun ad w => c3h hU hf hb ad w) hle rfl (d29 (a8d hf).1 hb)
  unfold a78
  have hY2 : a6r P ⟨d, .store t x y, ty, ps, af, g⟩ (ev ρ) w fun v w' => v = undef /\ Ext (fun q => q = blk) w w' /\ Mb w' blk t0 (u.cells.toList.take (b0k c p) ++ ub.cells.toList ++ u.cells.toList.drop (b0k c p + ub.cells.toList.length)) := by
    unfold a6r at hY ⊢
    simp only [execOp, Sem.run_bind] at hY ⊢
    cases hr : (Instr.storeAt t (ev ρ x) (ev ρ y)).run P w with
    | halt h0 w0 => rw [hr] at hY; exact hY.elim
    | ok v0 w0 => rw [hr] at hY; exact ⟨trivial, hY⟩
  refine hY2.mono fun v w' ⟨hv0, hE, hM'⟩ => ⟨Z, π, ?_⟩
  subst hv0
  refine h.set hu (fun h => by cases h) (hE.mono fun q hq => ?_) (fun X' hX hw => ?_) (fun q hq => ?_) (fun X' hX => rfl)
  . subst hq; rw [hmem, hv]; rfl
  . rw [hv]
    refine ⟨blk, u', rfl, ?_, hr'.le hX⟩
    rw [hw, hu']; exact hM'
  . rw [hmem]; exact hq
theorem d8b {a0 : U.AV} {p : List PE} {a1 : U.AV} (hup : c42 b a0 p = some a1) : p = [] \/ ∃ c, a0n a0 = some c := by
  cases p with
  | nil => exact .inl rfl
  | cons q p => cases a0 <;> first
    | exact .inr ⟨_, rfl⟩
    | (cases q <;> cases hup)
theorem e05 {α β : Type} {p : α -> β -> Prop} {l : List α} {r : List β} {n : Int} {a : α} {b : β} (h : q9 p l r) (hp : p a b) : q9 p (b0x l n a) (b0x r n b) := by
  unfold b0x
  split
  . exact b9e _ _ _ h hp
  . exact h
theorem e22 (hU : UOK U) (h : Rel E Z π σ ρ w) {t e : TypeId} {id : Nat} {c : U.C} {p : List PE} {l : List (U.T c)} {n : Int} {y0 y1 : U.T c} {a1 : U.AV} {ub : Value} {ad : Addr} (hmem : σ.mem id = .sl e c l) (hget : l8 l n = some y0)
    (hf : b4d P t b = true) (hup : c42 b (inj c y0) p = some a1) (hprj : prj c a1 = some y1) (hb : a36 (cx Z π σ w) b ub) (hy : ev ρ y = ub) (had : c1g (π id) = some ad) (hx : ev ρ x = .pointer (some (ad.add (b0k c (.i n :: p))))) (hu : b8q σ id) :
    a78 P E σ ρ w ⟨d, .store t x y, ty, ps, af, g⟩ .undef [(id, .sl e c (b0x l n y1))] := by
  have hm := h.mem id
  rw [hmem] at hm
  obtain ⟨css, hO, hr⟩ := hm
  obtain ⟨r0, hr0, hrep⟩ := b9w hr hget
  obtain ⟨ad', cap, hv, hi, hca⟩ := Own.elem hO hr0
  rw [hv] at had
  cases had
  obtain ⟨hk1, hk2, hk3⟩ := a4j hU c y0
  have hps := c6i hU hprj
  have hc : p = [] \/ a0n (inj c y0 : U.AV) = some c := by
    cases hag : U.ag c with
    | true => right; simp [inj, hag, a0n]
    | false =>
      left
      rcases d8b hup with h | ⟨c1, h⟩
      . exact h
      . rw [hag] at hk2
        cases hi : (inj c y0 : U.AV) <;> rw [hi] at h hk2 <;> first
          | (cases h; done)
          | (cases hk2; done)
  obtain ⟨⟨u', hu', hr'⟩, hle, _⟩ := c1r hU hb (a8d hf).1 p (inj c y0) c r0.1 a1 (by rw [r0.2.1, hk3]) (fun _ => by obtain ⟨u, h1, h2⟩ := d8i hU (X := cx Z π σ w) hrep; exact ⟨u, h1, h2⟩) hup hc (by rw [hk3, hps.1])
  have hrep1 := b5v hU hprj hr'
  have hY := c65 (P := P) (ρ := ρ) (w := w) (G := fun q => (π id).ownBlock = some q) (o := ⟨d, .store t x y, ty, ps, af, g⟩) (Φ := fun w' => Own 0 e (U.n c) Subtype.val w' (π id) (b0x css n (d0n hrep1)))
    fun F pl hF hmu => c5v (off := b0k c p) (y0 := r0) hF hmu (fun _ h => h) (fun r => r.2.1) hx hv (by simp only [b0k]) hy hO hr0 (fun ad w => c3h hU hf hb ad w) (by rw [<- r0.2.1]; exact hle) (by rw [show (d0n hrep1).1 = u'.cells.toList from rfl, hu']) (d29 (a8d hf).1 hb)
  have hY2 : a6r P ⟨d, .store t x y, ty, ps, af, g⟩ (ev ρ) w fun v w' => v = undef /\ Ext (fun q => (π id).ownBlock = some q) w w' /\ Own 0 e (U.n c) Subtype.val w' (π id) (b0x css n (d0n hrep1)) := by
    unfold a6r at hY ⊢
    simp only [execOp, Sem.run_bind] at hY ⊢
    cases hr : (Instr.storeAt t (ev ρ x) (ev ρ y)).run P w with
    | halt h0 w0 => rw [hr] at hY; exact hY.elim
    | ok v0 w0 => rw [hr] at hY; exact ⟨trivial, hY⟩
  refine hY2.mono fun v w' ⟨hv0, hE, hO'⟩ => ⟨Z, π, ?_⟩
  subst hv0
  refine h.set hu (fun h => by cases h) (hE.mono fun q hq => ?_) (fun X' hX hw => ?_) (fun q hq => ?_) (fun X' hX => rfl)
  . rw [hmem]; exact (b5z hv).1 hq
  . refine ⟨_, by rw [hw]; exact hO', ?_⟩
    exact e05 (hr.mono fun r x hh => b9h hX hh) (b9h hX hrep1)
  . rw [hmem]; exact hq
theorem d8x (hU : UOK U) (h : Rel E Z π σ ρ w) {t t0 : TypeId} {id : Nat} {ca : U.C} {p : List PE} {xv : U.T ca} {n : Int} {y0 y1 : U.T (U.ae ca)} {a1 : U.AV} {ub : Value} {ad : Addr} (hmem : σ.mem id = .box t0 (.val ca xv)) (hA : U.isA ca = true) (hget : l8 (U.al ca xv) n = some y0)
    (hf : b4d P t b = true) (hup : c42 b (inj (U.ae ca) y0) p = some a1) (hprj : prj (U.ae ca) a1 = some y1) (hb : a36 (cx Z π σ w) b ub) (hy : ev ρ y = ub) (had : c1g (π id) = some ad) (hx : ev ρ x = .pointer (some (ad.add (b0k (U.ae ca) (.i n :: p))))) (hu : b8q σ id) :
    a78 P E σ ρ w ⟨d, .store t x y, ty, ps, af, g⟩ .undef [(id, .box t0 (.val ca (U.as ca xv n y1)))] := by
  have hm := h.mem id
  rw [hmem] at hm
  obtain ⟨blk, u, hv, hM, ha⟩ := hm
  rw [hv] at had
  cases had
  obtain ⟨cs, hcs, hrep⟩ := ha
  obtain ⟨_, css, hcss, hall⟩ := b5a.1 hrep
  rw [(hU.arr ca xv hA).1] at hall
  obtain ⟨h0, hg1, hg2⟩ := c77 (inj (U.ae ca)) hget
  obtain ⟨s, hs, hfs⟩ := hall.get hg1
  have ht := c1u hU (U.al ca xv) css n.toNat hall (Nat.le_of_lt hg2)
  have hk3 := (a4j hU (U.ae ca) y0).2.2
  have hps := c6i hU hprj
  have hc : p = [] \/ a0n (inj (U.ae ca) y0 : U.AV) = some (U.ae ca) := by
    have hk2 := (a4j hU (U.ae ca) y0).2.1
    cases hag : U.ag (U.ae ca) with
    | true => right; simp [inj, hag, a0n]
    | false =>
      left
      rcases d8b hup with h | ⟨c1, h⟩
      . exact h
      . rw [hag] at hk2
        cases hi : (inj (U.ae ca) y0 : U.AV) <;> rw [hi] at h hk2 <;> first
          | (cases h; done)
          | (cases hk2; done)
  have hsl : s.length = asz (inj (U.ae ca) y0) := a7y hU hfs
  obtain ⟨⟨u', hu', hr'⟩, hle, _⟩ := c1r hU hb (a8d hf).1 p (inj (U.ae ca) y0) (U.ae ca) s a1 hsl (fun _ => by obtain ⟨u, h1, h2⟩ := a3l (X := cx Z π σ w) hfs; exact ⟨u, h1, h2⟩) hup hc (by rw [hk3, hps.1])
  have hrep1 := b5v hU hprj hr'
  have hul : u'.cells.toList.length = s.length := by
    rw [hu']
    simp only [List.length_append, List.length_take, List.length_drop]
    omega
  obtain ⟨q1, q2⟩ := d78 css n.toNat s hs
  have hnew : (css.set n.toNat u'.cells.toList).flatten = cs.take (n.toNat * U.n (U.ae ca) + b0k (U.ae ca) p) ++ ub.cells.toList ++ cs.drop (n.toNat * U.n (U.ae ca) + b0k (U.ae ca) p + ub.cells.toList.length) := by
    rw [b2f css n.toNat s _ hs hul, hul, hu', <- hcss]
    have := e12 (cs := css.flatten) (o := (css.take n.toNat).flatten.length) (k := s.length) (o' := b0k (U.ae ca) p) (t := ub.cells.toList) q2 hle
    rw [q1] at this
    rw [ht] at this ⊢
    rw [hcss]
    exact this
  have hL : n.toNat * U.n (U.ae ca) + b0k (U.ae ca) p + ub.cells.toList.length <= cs.length := by
    rw [hcss, <- ht]; omega
  have hY := c65 (P := P) (ρ := ρ) (w := w) (G := fun q => q = blk) (o := ⟨d, .store t x y, ty, ps, af, g⟩) (Φ := fun w' => Mb w' blk t0 (cs.take (n.toNat * U.n (U.ae ca) + b0k (U.ae ca) p) ++ ub.cells.toList ++ cs.drop (n.toNat * U.n (U.ae ca) + b0k (U.ae ca) p + ub.cells.toList.length)))
    fun F pl hF hmu => b7a hF hmu (fun _ h => h) hx rfl hy (show Mb w blk t0 cs by have h9 : Mb w blk t0 u.cells.toList := hM; rw [hcs] at h9; simpa [Value.cells] using h9) (fun ad w => c3h hU hf hb ad w) hL rfl (d29 (a8d hf).1 hb)
  have hY2 : a6r P ⟨d, .store t x y, ty, ps, af, g⟩ (ev ρ) w fun v w' => v = undef /\ Ext (fun q => q = blk) w w' /\ Mb w' blk t0 (cs.take (n.toNat * U.n (U.ae ca) + b0k (U.ae ca) p) ++ ub.cells.toList ++ cs.drop (n.toNat * U.n (U.ae ca) + b0k (U.ae ca) p + ub.cells.toList.length)) := by
    unfold a6r at hY ⊢
    simp only [execOp, Sem.run_bind] at hY ⊢
    cases hr : (Instr.storeAt t (ev ρ x) (ev ρ y)).run P w with
    | halt h0 w0 => rw [hr] at hY; exact hY.elim
    | ok v0 w0 => rw [hr] at hY; exact ⟨trivial, hY⟩
  refine hY2.mono fun v w' ⟨hv0, hE, hM'⟩ => ⟨Z, π, ?_⟩
  subst hv0
  refine h.set hu (fun h => by cases h) (hE.mono fun q hq => ?_) (fun X' hX hw => ?_) (fun q hq => ?_) (fun X' hX => rfl)
  . subst hq; rw [hmem, hv]; rfl
  . rw [hv]
    refine ⟨blk, .agg (css.set n.toNat u'.cells.toList).flatten.toArray, rfl, ?_, (css.set n.toNat u'.cells.toList).flatten, rfl, ?_⟩
    . rw [hw]
      have : (Value.agg (css.set n.toNat u'.cells.toList).flatten.toArray).cells.toList = (css.set n.toNat u'.cells.toList).flatten := by simp [Value.cells]
      rw [this, hnew]; exact hM'
    . refine c86 hU ?_
      rw [(hU.arr ca _ hA).1, hU.ars ca xv n y1 hA]
      have e : (b0x (U.al ca xv) n y1).map (inj (U.ae ca)) = ((U.al ca xv).map (inj (U.ae ca))).set n.toNat (inj (U.ae ca) y1) := by
        unfold b0x
        rw [if_pos h0, List.map_set]
      rw [e]
      exact b9e _ _ _ (hall.mono fun a s hh => hh.le hX) (b42 hU (b9h hX hrep1))
  . rw [hmem]; exact hq
theorem d3l (hU : UOK U) (h : Rel E Z π σ ρ w) {t : TypeId} {id : Nat} {c : U.C} {p : List PE} {ub : Value} {ad : Addr} (hf : b4d P t b = true) (hy1 : a36 (cx Z π σ w) b ub) (hyv : ev ρ y = ub) (hu : b8q σ id) (had : c1g (π id) = some ad) (hv : ev ρ x = .pointer (some (ad.add (b0k c p)))) (hcm : b9r c (σ.mem id) p = true)
    (hev : (d6c (σ.mem id) p b fun m' => (Q.done .undef [(id, m')] : U.Q)).Ev σ m0 m v ws) : a78 P E σ ρ w ⟨d, .store t x y, ty, ps, af, g⟩ v ws := by
  cases hmem : σ.mem id <;> rw [hmem] at hev hcm <;> try exact hev.elim
  case box t0 a0 =>
    have gen : (match c42 b a0 p with
        | some a' => (match Nat.beq (asz a0) (asz a') && (a6a a0 == a6a a') && a90 a0 with | true => Q.done .undef [(id, .box t0 a')] | false => .fail)
        | none => (.fail : U.Q)).Ev σ m0 m v ws -> e9b c (.box t0 a0) = true -> a78 P E σ ρ w ⟨d, .store t x y, ty, ps, af, g⟩ v ws := by
      intro hev hcm
      split at hev
      . rename_i a1 hup
        split at hev
        . rename_i hs
          obtain ⟨hm1, rfl, rfl⟩ := hev
          refine c9g hU h hmem (.inr ?_) hf hup hs hy1 hyv had hv hu
          clear hup hs hmem
          cases a0 <;> try (cases hcm; done)
          all_goals
            have := b5h hcm
            subst this
            rfl
        . exact hev.elim
      . exact hev.elim
    cases p with
    | nil => exact gen (by cases a0 <;> exact hev) (by cases a0 <;> exact hcm)
    | cons q p => cases q with
      | f n => exact gen (by cases a0 <;> exact hev) (by cases a0 <;> exact hcm)
      | i n =>
        have plain : (match c42 b a0 (.i n :: p) with
            | some a' => (match Nat.beq (asz a0) (asz a') && (a6a a0 == a6a a') && a90 a0 with | true => Q.done .undef [(id, .box t0 a')] | false => .fail)
            | none => (.fail : U.Q)).Ev σ m0 m v ws -> a78 P E σ ρ w ⟨d, .store t x y, ty, ps, af, g⟩ v ws := by
          intro hev
          have : c42 b a0 (.i n :: p) = none := by cases a0 <;> rfl
          rw [this] at hev; exact hev.elim
        cases a0 <;> try exact plain hev
        rename_i ca xv
        have hev : (match U.isA ca with
          | true => Q.opt (l8 (U.al ca xv) n) fun y => (match c42 b (inj (U.ae ca) y) p with
            | some a' => (match prj (U.ae ca) a' with | some y' => Q.done .undef [(id, .box t0 (.val ca (U.as ca xv n y')))] | none => .fail)
            | none => .fail)
          | false => (.fail : U.Q)).Ev σ m0 m v ws := hev
        have hcm : (U.isA ca && eqC c (U.ae ca)) = true := hcm
        simp only [Bool.and_eq_true] at hcm
        rw [hcm.1] at hev
        obtain ⟨y0, hy0, hev⟩ := hev
        have hcc := b5h hcm.2
        subst hcc
        dsimp only at hev
        split at hev
        . rename_i a1 hup
          split at hev
          . rename_i y1 hprj
            obtain ⟨hm1, rfl, rfl⟩ := hev
            exact d8x hU h hmem hcm.1 hy0 hf hup hprj hy1 hyv had hv hu
          . exact hev.elim
        . exact hev.elim
  case sl e c' l =>
    have := b5h hcm
    subst this
    cases p with
    | nil => exact hev.elim
    | cons q p => cases q with
      | f n => exact hev.elim
      | i n =>
        obtain ⟨y0, hy0, hev⟩ := hev
        dsimp only at hev
        split at hev
        . rename_i a1 hup
          split at hev
          . rename_i y1 hprj
            obtain ⟨hm1, rfl, rfl⟩ := hev
            exact e22 hU h hmem hy0 hf hup hprj hy1 hyv had hv hu
          . exact hev.elim
        . exact hev.elim
theorem f0c {mm : U.MC} {p : List PE} {k : U.MC -> U.Q} (hev : (d6c mm p b k).Ev σ m0 m v ws) : ∃ m' m1, (k m').Ev σ m1 m v ws /\ ∀ (σ2 : U.St) (k2 : U.MC -> U.Q) (m2 : Nat) (v2 : U.AV) (ws2 : List (Nat × U.MC)), (k2 m').Ev σ2 m1 m2 v2 ws2 -> (d6c mm p b k2).Ev σ2 m1 m2 v2 ws2 := by
  cases mm <;> try exact hev.elim
  case box t0 a0 =>
    have arr : ∀ (ca : U.C) (xv : U.T ca) (n : Int) (p' : List PE), a0 = .val ca xv -> p = .i n :: p' -> ∃ m' m1, (k m').Ev σ m1 m v ws /\ ∀ (σ2 : U.St) (k2 : U.MC -> U.Q) (m2 : Nat) (v2 : U.AV) (ws2 : List (Nat × U.MC)), (k2 m').Ev σ2 m1 m2 v2 ws2 -> (d6c (.box t0 a0) p b k2).Ev σ2 m1 m2 v2 ws2 := by
      intro ca xv n p' e1 e2
      subst e1; subst e2
      have hev : (match U.isA ca with
        | true => Q.opt (l8 (U.al ca xv) n) fun y => (match c42 b (inj (U.ae ca) y) p' with
          | some a' => (match prj (U.ae ca) a' with | some y' => k (.box t0 (.val ca (U.as ca xv n y'))) | none => .fail)
          | none => .fail)
        | false => (.fail : U.Q)).Ev σ m0 m v ws := hev
      split at hev
      . rename_i hA
        obtain ⟨y0, hy0, hev⟩ := hev
        dsimp only at hev
        split at hev
        . rename_i a1 hup
          split at hev
          . rename_i y1 hprj
            refine ⟨_, _, hev, fun σ2 k2 m2 v2 ws2 h2 => ?_⟩
            show (match U.isA ca with
              | true => Q.opt (l8 (U.al ca xv) n) fun y => (match c42 b (inj (U.ae ca) y) p' with
                | some a' => (match prj (U.ae ca) a' with | some y' => k2 (.box t0 (.val ca (U.as ca xv n y'))) | none => .fail)
                | none => .fail)
              | false => (.fail : U.Q)).Ev σ2 _ _ _ _
            rw [hA]
            refine ⟨y0, hy0, ?_⟩
            dsimp only
            rw [hup]
            dsimp only
            rw [hprj]; exact h2
          . exact hev.elim
        . exact hev.elim
      . exact hev.elim
    have hb : (∃ ca xv n p', a0 = .val ca xv /\ p = .i n :: p') \/ ∀ kk : U.MC -> U.Q, d6c (.box t0 a0) p b kk = (match c42 b a0 p with
      | some a' => (match Nat.beq (asz a0) (asz a') && (a6a a0 == a6a a') && a90 a0 with | true => kk (.box t0 a') | false => .fail)
      | none => (.fail : U.Q)) := by
      cases a0
      case val ca xv =>
        cases p with
        | nil => exact .inr fun _ => rfl
        | cons q p => cases q with
          | f n => exact .inr fun _ => rfl
          | i n => exact .inl ⟨_, _, n, p, rfl, rfl⟩
      all_goals exact .inr fun _ => by cases p <;> rfl
    rcases hb with ⟨ca, xv, n, p', e1, e2⟩ | hb
    . exact arr ca xv n p' e1 e2
    rw [hb k] at hev
    have hev : (match c42 b a0 p with
      | some a' => (match Nat.beq (asz a0) (asz a') && (a6a a0 == a6a a') && a90 a0 with | true => k (.box t0 a') | false => .fail)
      | none => (.fail : U.Q)).Ev σ _ m v ws := hev
    split at hev
    . rename_i a1 hup
      split at hev
      . rename_i hs
        refine ⟨_, _, hev, fun σ2 k2 m2 v2 ws2 h2 => ?_⟩
        rw [hb k2]
        show (match c42 b a0 p with
          | some a' => (match Nat.beq (asz a0) (asz a') && (a6a a0 == a6a a') && a90 a0 with | true => k2 (.box t0 a') | false => .fail)
          | none => (.fail : U.Q)).Ev σ2 _ _ _ _
        rw [hup]
        dsimp only
        rw [hs]; exact h2
      . exact hev.elim
    . exact hev.elim
  case sl e c l =>
    cases p with
    | nil => exact hev.elim
    | cons q p => cases q with
      | f n => exact hev.elim
      | i n =>
        obtain ⟨y0, hy0, hev⟩ := hev
        dsimp only at hev
        split at hev
        . rename_i a1 hup
          split at hev
          . rename_i y1 hprj
            refine ⟨_, _, hev, fun σ2 k2 m2 v2 ws2 h2 => ⟨y0, hy0, ?_⟩⟩
            dsimp only
            rw [hup]
            dsimp only
            rw [hprj]; exact h2
          . exact hev.elim
        . exact hev.elim
theorem d57 (hU : UOK U) (h : Rel E Z π σ ρ w) {t : TypeId} (hx : AVR (cx Z π σ w) a (ev ρ x)) (hy : AVR (cx Z π σ w) b (ev ρ y)) (hev : (e0f P fr t a b).Ev σ m0 m v ws) : a78 P E σ ρ w ⟨d, .store t x y, ty, ps, af, g⟩ v ws := by
  unfold e0f at hev
  split at hev
  case h_2 => exact hev.elim
  rename_i hf
  have hy1 := a83 (b32 (a8d hf).1) hy
  split at hev
  . rename_i id
    have hev : (d6c (σ.mem id) [] b fun m' => (match m' with
      | .box t' a => c6d P fr t' id a .undef [(id, .box t' a)]
      | _ => .fail)).Ev σ _ m v ws := hev
    cases hmem : σ.mem id <;> rw [hmem] at hev <;> try exact hev.elim
    rename_i t0 a0
    have e0 : ∀ kk : U.MC -> U.Q, d6c (.box t0 a0) [] b kk = (match Nat.beq (asz a0) (asz b) && (a6a a0 == a6a b) && a90 a0 with | true => kk (.box t0 b) | false => (.fail : U.Q)) := fun kk => by cases a0 <;> rfl
    rw [e0] at hev
    have hev : (match Nat.beq (asz a0) (asz b) && (a6a a0 == a6a b) && a90 a0 with | true => c6d P fr t0 id b .undef [(id, .box t0 b)] | false => (.fail : U.Q)).Ev σ _ m v ws := hev
    split at hev
    . rename_i hs
      have hm := h.mem id
      rw [hmem] at hm
      obtain ⟨blk, u, hv, hM, ha⟩ := hm
      refine c9k (c9g hU h (c := U.c0) (p := []) hmem (.inl rfl) hf rfl hs hy1 rfl (ad := ⟨blk, 0, none⟩) (by rw [hv]; rfl) ?_ hx.1) d9a (fun i _ hn => d6x (fun e => ?_)) hev
      . rw [hx.2.1]
        show π id = .pointer (some (Addr.add _ 0))
        rw [hv]; rfl
      . rw [e, hmem] at hn; cases hn
    . exact hev.elim
  . rename_i id c p
    obtain ⟨hu, ad, had, hv⟩ := hx
    have hev : (match b9r c (σ.mem id) p with
      | true => (match f1x (σ.mem id) p b with
        | true => d6c (σ.mem id) p b fun m' => .done .undef [(id, m')]
        | false => (match c73 id b with
          | true => .fail
          | false => d37 [b] fun as ws => (match as with
            | [y'] => (match b4d P t y' with | true => d6c (σ.mem id) p y' fun m' => .done .undef ((id, m') :: ws) | false => .fail)
            | _ => .fail)))
      | false => (.fail : U.Q)).Ev σ _ m v ws := hev
    cases hcm : b9r c (σ.mem id) p with
    | false => rw [hcm] at hev; exact hev.elim
    | true =>
      rw [hcm] at hev
      dsimp only at hev
      split at hev
      . exact d3l hU h hf hy1 rfl hu had hv hcm hev
      . split at hev
        . exact hev.elim
        rename_i hsame
        obtain ⟨as', fz, m1, hev, _, hfz, hfm, hA⟩ := c12 hU h (as := [b]) (us := [ev ρ y]) ⟨hy, trivial⟩ hev
        split at hev
        case h_2 => exact hev.elim
        rename_i y'
        split at hev
        case h_2 => exact hev.elim
        rename_i hf'
        have hfr := h.freeze hfz
        have hy' := (hA fz hfz fun q hq => ⟨hq, d5n hq⟩).1
        have hy1' := a83 (b32 (a8d hf').1) hy'
        obtain ⟨m', m2, hd, hset⟩ := f0c hev
        obtain ⟨_, hv0, hws⟩ := hd
        rw [hv0, hws]
        have hmem' : (σ.app none .unk fz).mem id = σ.mem id := by
          rw [a2e]
          cases hl : lk id fz with
          | none => rfl
          | some mm =>
            exfalso
            have := hfm _ (a98 hl)
            simp only [List.mem_singleton] at this
            rw [<- this] at hsame
            simp [c73] at hsame
        have hev2 := hset (σ.app none .unk fz) (fun m' => Q.done .undef [(id, m')]) m2 .undef [(id, m')] ⟨rfl, rfl, rfl⟩
        rw [<- hmem'] at hev2 hcm
        have hu' : b8q (σ.app none .unk fz) id := by unfold b8q; rw [hmem']; exact hu
        exact b6i h hfz (ws := [(id, m')]) (d3l hU hfr hf' hy1' rfl hu' had hv hcm hev2)
  . exact hev.elim
end
end Go.SX
namespace Go.SX
open Go Go.PL
section
variable {P : Program} {U : Uni} {E : Env} {Z : Nat -> Prop} {π : Nat -> Value} {σ : U.St} {ρ : Nat -> Value} {w : World}
variable {d : Option Tmp} {ty : TypeId} {ps : String} {af : Array Edge} {g : Option (Nat × Bool)} {x y z : Operand} {m0 m : Nat} {a b v : U.AV} {ws : List (Nat × U.MC)} {fr : Nat}
theorem d4p (o : Nat) (vs : Array Value) (cells : Array Value) (h : o + vs.size <= cells.size) :
    (vs.zipIdx.foldl (fun cs (c, j) => cs.setIfInBounds (o + j) c) cells).toList = cells.toList.take o ++ vs.toList ++ cells.toList.drop (o + vs.toList.length) := by
  have hf := Great.foldl_set o vs.toList 0 cells
  rw [<- Array.foldl_toList, Array.toList_zipIdx]
  obtain ⟨h1, h2⟩ := hf
  apply List.ext_getElem?
  intro k
  rw [Array.getElem?_toList]
  have h3 := h2 k
  simp only [Nat.add_zero] at h3
  refine Eq.trans h3 ?_
  have hl : vs.toList.length = vs.size := by simp
  have hc : cells.toList.length = cells.size := by simp
  rw [List.getElem?_append, List.getElem?_append]
  simp only [List.length_append, List.length_take, hl, hc, Nat.min_eq_left (show o <= cells.size by omega)]
  by_cases k1 : k < o
  . rw [if_neg (by omega), if_pos (by omega), if_pos k1, List.getElem?_take_of_lt k1, Array.getElem?_toList]
  . by_cases k2 : k < o + vs.size
    . rw [if_pos ⟨by omega, k2, by omega⟩, if_pos k2, if_neg k1]
    . rw [if_neg (by omega), if_neg k2, List.getElem?_drop, Array.getElem?_toList]
      congr 1; omega
def d9j (l : List Nat) (i : Nat) : Nat := (l.take i).sum
theorem d2x : ∀ (css : List (List Value)), css.flatten.length = (css.map List.length).sum
  | [] => rfl
  | c :: css => by simp [d2x css]
theorem c26 : ∀ (css : List (List Value)) (i : Nat) (s t : List Value), css[i]? = some s -> t.length = s.length -> (css.set i t).map List.length = css.map List.length
  | [], i, s, t, h, _ => by simp at h
  | c :: css, 0, s, t, h, hl => by simp at h; subst h; simp [hl]
  | c :: css, i + 1, s, t, h, hl => by simp only [List.set_cons_succ, List.map_cons]; rw [c26 css i s t (by simpa using h) hl]
theorem c5z {X : Cx} {place : Nat -> Option (Nat × Nat)} {sz : List Nat} (hpl : ∀ i n, sz[i]? = some n -> place i = some (d9j sz i, n)) : ∀ (is : List Nat) (as : List U.AV) (us : List Value) (fs gs : List U.AV) (css : List (List Value)) (cells : Array Value),
    as.all a0h = true -> q9 (a36 X) as us -> f0k fs is as = some gs -> is.length = as.length -> cells.toList = css.flatten -> css.map List.length = sz -> fs.map asz = sz -> q9 (fun a s => ∃ u, u.cells.toList = s /\ a36 X a u) fs css ->
    ∃ css' cells', Instr.fill place cells (is.zip us) = some cells' /\ cells'.toList = css'.flatten /\ q9 (fun a s => ∃ u, u.cells.toList = s /\ a36 X a u) gs css'
  | [], as, us, fs, gs, css, cells, hp, hr, hs, hlen, hc, hz, hfz, hall => by
    have : fs = gs := by simpa [f0k] using hs
    subst this
    exact ⟨css, cells, rfl, hc, hall⟩
  | i :: is, [], us, fs, gs, css, cells, hp, hr, hs, hlen, hc, hz, hfz, hall => by simp at hlen
  | i :: is, a :: as, [], fs, gs, css, cells, hp, hr, hs, hlen, hc, hz, hfz, hall => hr.elim
  | i :: is, a :: as, u :: us, fs, gs, css, cells, hp, hr, hs, hlen, hc, hz, hfz, hall => by
    simp only [f0k] at hs
    split at hs
    . rename_i b hb
      split at hs
      . rename_i hok
        simp only [Bool.and_eq_true] at hok
        have hsz := Nat.eq_of_beq_eq_true hok.1
        simp only [List.all_cons, Bool.and_eq_true] at hp
        have hul := b9d hp.1 (hr.1.to0 hp.1)
        obtain ⟨s, hs1, hs2⟩ := hall.get hb
        have hsl : s.length = asz b := by
          have h1 : (css.map List.length)[i]? = some s.length := by rw [List.getElem?_map, hs1]; rfl
          have h2 : (fs.map asz)[i]? = some (asz b) := by rw [List.getElem?_map, hb]; rfl
          rw [hz] at h1; rw [hfz, h1] at h2
          exact Option.some.inj h2
        have hul2 : u.cells.toList.length = s.length := by rw [hul, hsz, hsl]
        have hszi : sz[i]? = some (asz b) := by rw [<- hfz, List.getElem?_map, hb]; rfl
        have hoff : d9j sz i = (css.take i).flatten.length := by unfold d9j; rw [d2x, List.map_take, hz]
        have hcs : cells.size = css.flatten.length := by rw [<- hc]; simp
        have hbound : (css.take i).flatten.length + s.length <= css.flatten.length := by
          have := b2f css i s s hs1 rfl
          have h2 := congrArg List.length this
          have h3 : (css.set i s) = css := by
            apply List.ext_getElem?
            intro k
            rw [List.getElem?_set]
            split
            . rename_i hk; subst hk
              have := (List.getElem?_eq_some_iff.1 hs1)
              simp [this.1, this.2]
            . rfl
          rw [h3] at h2
          have h4 : (css.take i).flatten.length <= css.flatten.length := by
            conv => rhs; rw [<- List.take_append_drop i css, List.flatten_append, List.length_append]
            omega
          simp only [List.length_append, List.length_take, List.length_drop] at h2
          omega
        have husz : u.cells.size = asz b := by rw [<- hsl, <- hul2]; simp
        have hfill := d4p (d9j sz i) u.cells cells (by rw [hoff, hcs, husz, <- hsl]; exact hbound)
        obtain ⟨css', cells', h1, h2, h3⟩ := c5z hpl is as us (fs.set i a) gs (css.set i u.cells.toList) (u.cells.zipIdx.foldl (fun cs (c, j) => cs.setIfInBounds (d9j sz i + j) c) cells)
          hp.2 hr.2 hs (by simpa using hlen) (by rw [hfill, b2f css i s _ hs1 hul2, hc, hoff]) (by rw [c26 css i s _ hs1 hul2, hz])
          (by rw [<- hfz]; apply List.ext_getElem?; intro k; rw [List.getElem?_map, List.getElem?_set, List.getElem?_map]; split
              . rename_i hk; subst hk
                have hlt := (List.getElem?_eq_some_iff.1 hb).1
                rw [if_pos hlt, hb]; simp [hsz]
              . rfl)
          (b9e i a _ hall ⟨u, rfl, hr.1⟩)
        refine ⟨css', cells', ?_, h2, h3⟩
        simp only [List.zip_cons_cons, Instr.fill, hpl i _ hszi, husz]
        have hno : ¬ (asz b ≠ asz b \/ d9j sz i + asz b > cells.size) := by
          rintro (h4 | h4)
          . exact h4 rfl
          . rw [hoff, hcs, <- hsl] at h4; omega
        simp only [hno, if_false, decide_false, Bool.false_eq_true, Bool.or_false, ne_eq, not_true_eq_false, false_or, gt_iff_lt] at *
        first
          | exact h1
          | (rw [if_neg (by simpa using hno)]; exact h1)
      . cases hs
    . cases hs
theorem c1a {α β : Type} {f : α -> Sem β} {gg : α -> β} : ∀ {l : List α}, (∀ x ∈ l, (f x).run P w = .ok (gg x) w) -> (l.mapM f).run P w = .ok (l.map gg) w
  | [], _ => by simp
  | x :: l, h => by
    rw [List.mapM_cons]
    simp [h x (by simp), c1a (l := l) fun y hy => h y (by simp [hy])]
theorem d24 {α β : Type} {f : α -> Sem β} {gg : α -> β} {l : Array α} (h : ∀ x ∈ l.toList, (f x).run P w = .ok (gg x) w) : (l.mapM f).run P w = .ok (l.map gg) w := by
  rw [Array.mapM_eq_mapM_toList]
  simp [c1a h]
  apply Array.ext'
  simp
theorem c6s {c : U.C} {fs : List Field} (h : c6r P c fs = true) : fs.length = (U.lay c).length /\ ∀ i f, fs[i]? = some f -> ∃ o, (U.lay c)[i]? = some o /\ f.offset = off c i /\ d6e P f.type (osz o) = true := by
  unfold c6r at h
  simp only [Bool.and_eq_true] at h
  have hl := Nat.eq_of_beq_eq_true h.1
  refine ⟨hl, fun i f hf => ?_⟩
  have hi : i < fs.length := (List.getElem?_eq_some_iff.1 hf).1
  have h2 := List.all_eq_true.1 h.2 i (by simpa using hi)
  rw [hf] at h2
  cases ho : (U.lay c)[i]? with
  | none => rw [ho] at h2; cases h2
  | some o =>
    rw [ho] at h2
    simp only [Bool.and_eq_true] at h2
    exact ⟨o, rfl, Nat.eq_of_beq_eq_true h2.1, h2.2⟩
theorem c66 (l : List (Nat × Operand)) : (l.toArray.map fun (i, x) => (i, ev ρ x)).toList = (l.map (·.1)).zip ((l.map (·.2)).map (ev ρ)) := by
  induction l with
  | nil => simp
  | cons q l ih => simp at ih ⊢; exact ih
theorem d27 {X : Cx} : ∀ {zs : List U.AV} {css : List (List Value)}, q9 (FV X) zs css -> css.map List.length = zs.map asz
  | [], [], _ => rfl
  | a :: zs, s :: css, h => by simp only [List.map_cons, h.1.1, d27 h.2]
  | [], _ :: _, h => h.elim
  | _ :: _, [], h => h.elim
theorem d62 (hU : UOK U) (h : Rel E Z π σ ρ w) {t : TypeId} {psr : Array (Nat × Operand)} {as : List U.AV} (hx : q9 (AVR (cx Z π σ w)) as ((psr.toList.map (·.2)).map (ev ρ))) (hev : (d9e P t (psr.toList.map (·.1)) as).Ev σ m0 m v ws) :
    a78 P E σ ρ w ⟨d, .build t psr, ty, ps, af, g⟩ v ws := by
  unfold d9e at hev
  split at hev
  case h_2 => exact hev.elim
  rename_i fs c zv hu hc hz
  split at hev
  case h_2 => exact hev.elim
  rename_i c' zs hzs
  split at hev
  case h_2 => exact hev.elim
  rename_i hfo
  obtain ⟨as', fz, m1, hev, _, hfz, _, hrep⟩ := c12 hU h hx hev
  have hrep := hrep fz hfz fun q hq => ⟨hq, d5n hq⟩
  split at hev
  case h_2 => exact hev.elim
  rename_i gs hpl hset
  split at hev
  case h_2 => exact hev.elim
  rename_i yv hmk
  obtain ⟨hm1, hv0, hws⟩ := hev
  subst hv0
  rw [hws]
  have h1 := h.freeze hfz
  refine b6i (ws := []) h hfz ?_
  have hrep1 := b1s (b4s (List.all_eq_true.2 fun a ha => by
    have := List.all_eq_true.1 hpl a ha
    cases a <;> first | exact this | cases this)) hrep
  unfold b9z at hz
  split at hz
  case h_2 => cases hz
  rename_i ti hti
  split at hz
  case h_2 => cases hz
  rename_i z0 hz0
  obtain ⟨uz, huz, hrz⟩ := c06 hU (X := cx (Zf Z π σ fz) π (σ.app none .unk fz) w) _ _ _ _ hz
  have hzf : ∃ css, q9 (FV (cx (Zf Z π σ fz) π (σ.app none .unk fz) w)) zs css /\ uz.cells.toList = css.flatten /\ zs.map a0n = U.lay c' := by
    cases zv <;> try (cases hzs; done)
    . cases hzs
      obtain ⟨cs, rfl, hrz⟩ := hrz
      obtain ⟨hl, css, rfl, hall⟩ := b5a.1 hrz
      exact ⟨css, b8p hU hall, by simp [Value.cells], hU.lay _ _⟩
    . cases hzs
      obtain ⟨css, rfl, hlay, hpp, hr⟩ := hrz
      exact ⟨css, c1s hpp hr, by simp [Value.cells], hlay⟩
  obtain ⟨css, hall, hcs, hlay⟩ := hzf
  obtain ⟨hfl, hff⟩ := c6s hfo
  have hsz : zs.map asz = (U.lay c').map osz := by rw [<- hlay, List.map_map]; exact List.map_congr_left fun a _ => (a8c a).symm
  have hcl : css.map List.length = (U.lay c').map osz := by
    rw [<- hsz]
    exact d27 hall
  have hplace : ∀ i n, ((U.lay c').map osz)[i]? = some n -> ((fs.map fun f => (f.offset, szT P f.type))[i]? : Option (Nat × Nat)) = some (d9j ((U.lay c').map osz) i, n) := by
    intro i n hi
    rw [List.getElem?_map] at hi
    cases ho : (U.lay c')[i]? with
    | none => rw [ho] at hi; cases hi
    | some o =>
      rw [ho] at hi
      have hn : osz o = n := Option.some.inj hi
      have hlt : i < fs.toList.length := by rw [hfl]; exact (List.getElem?_eq_some_iff.1 ho).1
      obtain ⟨o', ho', h2, h3⟩ := hff i fs.toList[i] (List.getElem?_eq_getElem hlt)
      rw [ho] at ho'
      cases ho'
      have hlt' : i < fs.size := by simpa using hlt
      have h4 := b0h h3
      simp only [Array.getElem?_map, Array.getElem?_eq_getElem hlt', Option.map_some]
      have e1 : fs.toList[i] = fs[i] := by simp
      rw [e1] at h2 h4
      rw [h2]
      have e2 : szT P fs[i].type = osz o := by
        unfold szT
        cases hi2 : P.info? fs[i].type with
        | none => rw [hi2] at h4; cases h4
        | some q => rw [hi2] at h4; exact Option.some.inj h4
      rw [e2, hn]
      unfold d9j off
      rw [List.map_take]
  have huz' : z0.cells.toList = css.flatten := by rw [<- huz]; exact hcs
  obtain ⟨css', cells', hfill, hcells, hall'⟩ := c5z (X := cx (Zf Z π σ fz) π (σ.app none .unk fz) w) hplace (psr.toList.map (·.1)) as' _ zs gs css z0.cells hpl hrep1 hset (by rw [q9.length hrep1]; simp) huz' hcl hsz (hall.mono fun a s hh => hh.2)
  refine m7 h1 (v := .agg cells') ?_ (AVR.of1 (by have h9 := d40 hU hmk hall'; rw [<- hcells] at h9; simpa using h9))
  refine d6h (vs := (psr.map fun (i, x) => (i, ev ρ x))) rfl ?_
  have hze : psr = psr.toList.toArray := by simp
  have hpe : (psr.map fun (i, x) => (i, ev ρ x)).toList = (psr.toList.map (·.1)).zip ((psr.toList.map (·.2)).map (ev ρ)) := by
    conv => lhs; rw [hze]
    exact c66 _
  have hmap : (fs.mapM fun f => do pure (f.offset, <- sizeOf f.type) : Sem (Array (Nat × Nat))).run P w = .ok (fs.map fun f => (f.offset, szT P f.type)) w := by
    refine d24 fun f hf => ?_
    obtain ⟨i, hi, rfl⟩ := List.getElem_of_mem hf
    obtain ⟨o, _, _, h3⟩ := hff i _ (List.getElem?_eq_getElem hi)
    have h4 := b0h h3
    have e2 : szT P fs.toList[i].type = osz o := by
      unfold szT
      cases hi2 : P.info? fs.toList[i].type with
      | none => rw [hi2] at h4; cases h4
      | some q => rw [hi2] at h4; exact Option.some.inj h4
    rw [Sem.run_bind, b38 h3, <- e2]; rfl
  have hzv : (zeroValue t).run P w = .ok z0 w := by simp [zeroValue, typeInfo, hti, hz0]
  unfold Instr.build
  rw [Sem.run_bind, hzv]
  simp only [Result.andThen_ok]
  rw [Sem.run_bind, b0q hu]
  simp only [Result.andThen_ok]
  rw [Sem.run_bind, hmap]
  simp only [Result.andThen_ok, hpe]
  rw [show (fun x : Nat => (fs.map fun f => (f.offset, szT P f.type))[x]?) = getElem? (fs.map fun f => (f.offset, szT P f.type)) from rfl, hfill]
  rfl
theorem e37 (m k : Nat) : ∀ (i : Nat), i <= m -> d9j (List.replicate m k) i = i * k := by
  intro i hi
  unfold d9j
  rw [List.take_replicate, Nat.min_eq_left hi]
  simp
theorem d20 (hU : UOK U) (h : Rel E Z π σ ρ w) {t : TypeId} {psr : Array (Nat × Operand)} {as : List U.AV} (hx : q9 (AVR (cx Z π σ w)) as ((psr.toList.map (·.2)).map (ev ρ))) (hev : (d0q P t (psr.toList.map (·.1)) as).Ev σ m0 m v ws) :
    a78 P E σ ρ w ⟨d, .build t psr, ty, ps, af, g⟩ v ws := by
  unfold d0q at hev
  split at hev
  case h_2 => exact hev.elim
  rename_i c zv hz
  split at hev
  case h_2 => exact hev.elim
  rename_i hok
  obtain ⟨as', fz, m1, hev, _, hfz, _, hrep⟩ := c12 hU h hx hev
  have hrep := hrep fz hfz fun q hq => ⟨hq, d5n hq⟩
  split at hev
  case h_2 => exact hev.elim
  rename_i gs hpl hset
  split at hev
  case h_2 => exact hev.elim
  rename_i yv hmk
  obtain ⟨hm1, hv0, hws⟩ := hev
  subst hv0
  rw [hws]
  have h1 := h.freeze hfz
  refine b6i (ws := []) h hfz ?_
  have hrep1 := b1s (b4s (List.all_eq_true.2 fun a ha => by
    have := List.all_eq_true.1 hpl a ha
    cases a <;> first | exact this | cases this)) hrep
  unfold b9z at hz
  split at hz
  case h_2 => cases hz
  rename_i ti hti
  split at hz
  case h_2 => cases hz
  rename_i z0 hz0
  obtain ⟨uz, huz, hrz⟩ := c06 hU (X := cx (Zf Z π σ fz) π (σ.app none .unk fz) w) _ _ _ _ hz
  obtain ⟨cs, rfl, hrz⟩ := hrz
  obtain ⟨hl, css, rfl, hall⟩ := b5a.1 hrz
  unfold e31 at hok
  split at hok
  case h_2 => cases hok
  rename_i n e hu
  simp only [Bool.and_eq_true] at hok
  obtain ⟨⟨hA, hmn⟩, he2⟩ := hok
  have hmn := Nat.eq_of_beq_eq_true hmn
  have hall2 := b8p hU (X := cx (Zf Z π σ fz) π (σ.app none .unk fz) w) hall
  have hsz : (U.flds c zv).map asz = List.replicate n (U.n (U.ae c)) := by
    rw [(hU.arr c zv hA).1, List.map_map, hmn, <- (hU.arr c zv hA).2]
    apply List.ext_getElem?
    intro k
    rw [List.getElem?_map, List.getElem?_replicate]
    cases hk : (U.al c zv)[k]? with
    | none =>
      have := List.getElem?_eq_none_iff.1 hk
      rw [if_neg (by omega)]; rfl
    | some q =>
      have := (List.getElem?_eq_some_iff.1 hk).1
      rw [if_pos this]
      simp [(a4j hU (U.ae c) q).2.2]
  have hcl : css.map List.length = List.replicate n (U.n (U.ae c)) := by rw [<- hsz]; exact d27 hall2
  have hplace : ∀ i k, (List.replicate n (U.n (U.ae c)))[i]? = some k -> (fun i => some (i * U.n (U.ae c), U.n (U.ae c)) : Nat -> Option (Nat × Nat)) i = some (d9j (List.replicate n (U.n (U.ae c))) i, k) := by
    intro i k hi
    rw [List.getElem?_replicate] at hi
    split at hi
    . rename_i hlt
      cases hi
      rw [e37 n _ i (Nat.le_of_lt hlt)]
    . cases hi
  have huz' : z0.cells.toList = css.flatten := by rw [<- huz]; simp [Value.cells]
  obtain ⟨css', cells', hfill, hcells, hall'⟩ := c5z (X := cx (Zf Z π σ fz) π (σ.app none .unk fz) w) hplace (psr.toList.map (·.1)) as' _ (U.flds c zv) gs css z0.cells hpl hrep1 hset (by rw [q9.length hrep1]; simp) huz' hcl hsz (hall2.mono fun a s hh => hh.2)
  refine m7 h1 (v := .agg cells') ?_ (AVR.of1 ⟨cells'.toList, by simp, by rw [hcells]; exact c4t hU hmk hall'⟩)
  refine d6h (vs := (psr.map fun (i, x) => (i, ev ρ x))) rfl ?_
  have hze : psr = psr.toList.toArray := by simp
  have hpe : (psr.map fun (i, x) => (i, ev ρ x)).toList = (psr.toList.map (·.1)).zip ((psr.toList.map (·.2)).map (ev ρ)) := by
    conv => lhs; rw [hze]
    exact c66 _
  have hzv : (zeroValue t).run P w = .ok z0 w := by simp [zeroValue, typeInfo, hti, hz0]
  unfold Instr.build
  rw [Sem.run_bind, hzv]
  simp only [Result.andThen_ok]
  rw [Sem.run_bind, b0q hu]
  simp only [Result.andThen_ok]
  rw [Sem.run_bind, b38 he2]
  simp only [Result.andThen_ok, hpe]
  rw [hfill]
  rfl
theorem d3n {X : Cx} {gg : TypeId -> U.AV -> U.AV -> Option Bool} {d : Nat} (hg : ∀ t a b r, gg t a b = some r -> ∀ u v, a36 X a u -> a36 X b v -> (Op.equalIn d t u v).run P w = .ok r w) : ∀ (fs : List Field) (o : Nat) (as bs : List U.AV) (r : Bool) (pa pb : List Value) (ca cb : List (List Value)), f5w P gg o fs as bs = some r -> pa.length = o -> pb.length = o -> q9 (FV X) as ca -> q9 (FV X) bs cb ->
    (Op.eqFields d (pa ++ ca.flatten).toArray (pb ++ cb.flatten).toArray fs).run P w = .ok r w
  | [], o, as, bs, r, pa, pb, ca, cb, h, _, _, _, _ => by
    have hr : r = true := by
      cases as <;> cases bs <;> first
        | (cases h; rfl)
        | cases h
    subst hr
    exact e7v rfl
  | f :: fs, o, as, bs, r, pa, pb, ca, cb, h, hpa, hpb, ha, hb => by
    cases as with
    | nil => cases h
    | cons a as => cases bs with
      | nil => cases h
      | cons b bs => cases ca with
        | nil => exact ha.elim
        | cons sa ca => cases cb with
          | nil => exact hb.elim
          | cons sb cb =>
            simp only [f5w] at h
            split at h
            case h_2 => cases h
            rename_i hc
            simp only [Bool.and_eq_true, bne_iff_ne, ne_eq] at hc
            obtain ⟨hn, ho, hfa, hfb, hp, hq, hsz⟩ := hc
            have ho := Nat.eq_of_beq_eq_true ho
            have hsz := Nat.eq_of_beq_eq_true hsz
            split at h
            case h_2 => cases h
            rename_i r1 hr1
            split at h
            case h_2 => cases h
            rename_i q hq2
            cases h
            obtain ⟨hla, ua, hua, hra⟩ := ha.1
            obtain ⟨hlb, ub, hub, hrb⟩ := hb.1
            have pt : ∀ {x : U.AV} {px sx : List Value} {cx : List (List Value)} {ux : Value}, b4d P f.type x = true -> a0h x = true -> px.length = o -> sx.length = asz x -> ux.cells.toList = sx -> a36 X x ux -> (part f.type (px ++ (sx :: cx).flatten).toArray f.offset).run P w = .ok ux w := by
              intro x px sx cx ux hf hpx hl hs hu hr
              refine d8l (X := X) hf hpx (hr.to0 hpx) ?_ ?_
              . rw [ho, <- hl, List.drop_left, List.flatten_cons, <- hs, List.take_left, hu]
              . rw [ho]; simp [hl, hs]
            refine e2c (off := f.offset) (t := f.type) ?_ (pt hfa hp hpa hla hua hra) (pt hfb hq hpb hlb hub hrb) (hg _ _ _ _ hr1 _ _ hra hrb) ?_
            . have : (f.name != "_") = true := by simpa using hn
              simp [this]
            . have e1 : pa ++ (sa :: ca).flatten = (pa ++ sa) ++ ca.flatten := by simp
              have e2 : pb ++ (sb :: cb).flatten = (pb ++ sb) ++ cb.flatten := by simp
              rw [e1, e2]
              exact d3n hg fs (o + asz a) as bs q _ _ ca cb hq2 (by simp [hpa, hla]) (by simp [hpb, hlb, hsz]) ha.2 hb.2
theorem d85 (hU : UOK U) {X : Cx} : ∀ (n : Nat) (t : TypeId) (a b : U.AV) (r : Bool), eqA P n t a b = some r -> ∀ (u v : Value) (d : Nat), a36 X a u -> a36 X b v -> (Op.equalIn (d + n) t u v).run P w = .ok r w
  | 0, _, _, _, _, h, _, _, _, _, _ => by cases h
  | n + 1, t, a, b, r, h, u, v, d, ha, hb => by
    simp only [eqA] at h
    split at h
    . split at h
      . rename_i k x k' y kk ht hk
        cases h
        unfold eqK at hk
        split at hk
        . rename_i he _
          subst he
          have hu : u = .int _ _ := ha
          have hv : v = .int _ _ := hb
          rw [hu, hv]
          exact run_equalIn_int w _ _ _ _ _ _ ht
        . cases hk
      . cases h
    . split at h
      . rename_i ht
        cases h
        have hu : u = .bool _ := ha
        have hv : v = .bool _ := hb
        rw [hu, hv]
        exact run_equalIn_bool' w _ _ _ _ ht
      . cases h
    . split at h
      . rename_i ht
        cases h
        have hu : u = .string _ := ha
        have hv : v = .string _ := hb
        rw [hu, hv]
        exact run_equalIn_string w _ _ _ _ ht
      . cases h
    . split at h
      case h_2 => cases h
      rename_i ca as cb bs hfa hfb
      split at h
      case h_2 => cases h
      rename_i fs ht hst
      have parts : ∀ {x : U.AV} {c : U.C} {xs : List U.AV} {ux : Value}, e26 x = some (c, xs) -> a36 X x ux -> ∃ css, ux = .agg css.flatten.toArray /\ q9 (FV X) xs css := by
        intro x c xs ux hx hr
        cases x <;> try (cases hx; done)
        . cases hx
          obtain ⟨cs, hu, hr⟩ := hr
          obtain ⟨_, css, hcs, hall⟩ := b5a.1 hr
          exact ⟨css, by rw [hu, hcs], b8p hU hall⟩
        . cases hx
          obtain ⟨css, hu, _, hp, hr⟩ := hr
          exact ⟨css, hu, c1s hp hr⟩
      obtain ⟨c1, hu, h1⟩ := parts hfa ha
      obtain ⟨c2, hv, h2⟩ := parts hfb hb
      have hfo : P.fieldsOf t = fs := by simp [Program.fieldsOf, ht]
      rw [hu, hv, show d + (n + 1) = (d + n) + 1 from rfl, run_equalIn_agg w (d + n) t _ _ (by rw [hfo]; exact ht) hst, hfo]
      have := d3n (P := P) (w := w) (X := X) (d := d + n) (fun t a b r hr u v hu hv => d85 hU n t a b r hr u v d hu hv) fs.toList 0 as bs r [] [] c1 c2 h rfl rfl h1 h2
      simpa using this
theorem e4d (hU : UOK U) (h : Rel E Z π σ ρ w) {op : BinOp} {t t' : TypeId} (hv : (a6a a && a6a b) = true) (hx : AVR (cx Z π σ w) a (ev ρ x)) (hy : AVR (cx Z π σ w) b (ev ρ y)) (hev : (f7n P op t a b).Ev σ m0 m v ws) :
    a78 P E σ ρ w ⟨d, .binOp op t x y t', ty, ps, af, g⟩ v ws := by
  simp only [Bool.and_eq_true] at hv
  have agg : ∀ {q : U.AV} {uq : Value}, a6a q = true -> AVR (cx Z π σ w) q uq -> a36 (cx Z π σ w) q uq /\ ∃ xs, uq = .agg xs := by
    intro q uq hq hr
    cases q <;> try (cases hq; done)
    . obtain ⟨cs, hu, hr⟩ := hr; exact ⟨⟨cs, hu, hr⟩, _, hu⟩
    . obtain ⟨css, hu, hr⟩ := hr; exact ⟨⟨css, hu, hr⟩, _, hu⟩
  obtain ⟨hx1, xs, hxs⟩ := agg hv.1 hx
  obtain ⟨hy1, ys, hys⟩ := agg hv.2 hy
  unfold f7n at hev
  split at hev
  case h_2 => exact hev.elim
  rename_i r hg he
  have hrun := d85 hU (w := w) 100 t a b r he _ _ 9900 hx1 hy1
  rw [hxs, hys] at hrun
  split at hev
  . obtain ⟨_, rfl, rfl⟩ := hev
    exact m7 h (f6v hxs hys hg hrun rfl) rfl
  . obtain ⟨_, rfl, rfl⟩ := hev
    exact m7 h (f6f hxs hys hg hrun rfl) rfl
  . exact hev.elim
end
end Go.SX
namespace Go.SX
open Go Go.PL
section
variable {P : Program} {U : Uni} {E : Env} {Z : Nat -> Prop} {π : Nat -> Value} {σ : U.St} {ρ : Nat -> Value} {w : World}
variable {d : Option Tmp} {ty : TypeId} {ps : String} {af : Array Edge} {g : Option (Nat × Bool)} {x y z : Operand} {m0 m : Nat} {a b v : U.AV} {ws : List (Nat × U.MC)} {fr : Nat}
theorem c5i {n : Nat} (hn : 0 < n) : ∀ (vs : List Value) (k : Nat), (∀ v ∈ vs, v.cells.size = n) -> (vs.flatMap fun v => v.cells.toList)[k]? = (vs[k / n]?).bind fun v => v.cells[k % n]?
  | [], k, _ => by simp
  | v :: vs, k, h => by
    have hv := h v (by simp)
    have ih := c5i hn vs (k - n) fun u hu => h u (by simp [hu])
    rw [List.flatMap_cons, List.getElem?_append]
    have hl : v.cells.toList.length = n := by simpa using hv
    by_cases hk : k < n
    . rw [if_pos (by omega), Nat.div_eq_of_lt hk, Nat.mod_eq_of_lt hk]
      simp
    . rw [if_neg (by omega), hl, ih]
      have e1 : k / n = (k - n) / n + 1 := by rw [Nat.div_eq_sub_div hn (by omega)]
      have e2 : (k - n) % n = k % n := (Nat.mod_eq_sub_mod (by omega)).symm
      rw [e1, List.getElem?_cons_succ, e2]
theorem c7x : ∀ (is : List Nat) (k : Nat) (us : List Value), c5x k is = true -> is.length = us.length -> is.zip us = (us.zipIdx k).map fun x => (x.2, x.1)
  | [], k, [], _, _ => rfl
  | i :: is, k, u :: us, h, hl => by
    simp only [c5x, Bool.and_eq_true] at h
    have := Nat.eq_of_beq_eq_true h.1
    subst this
    simp [c7x is (i + 1) us h.2 (by simpa using hl)]
  | [], _, _ :: _, _, hl => by simp at hl
  | _ :: _, _, [], _, hl => by simp at hl
theorem d3d (hU : UOK U) {X : Cx} {c : U.C} : ∀ {as : List U.AV} {us : List Value} {l : List (U.T c)}, f5h c as = some l -> q9 (a36 X) as us -> q9 (fun u x => (Rp c).rep X.G X.w u.cells.toList x) us l
  | [], [], l, h, _ => by cases h; trivial
  | a :: as, u :: us, l, h, hr => by
    simp only [f5h] at h
    split at h
    . rename_i xv hx
      split at h
      . rename_i l' hl
        cases h
        exact ⟨b5v hU hx hr.1, d3d hU hl hr.2⟩
      . cases h
    . cases h
  | [], _ :: _, _, _, hh => hh.elim
  | _ :: _, [], _, _, hh => hh.elim
def e9v {G : Nat -> Prop} {w : World} {c : U.C} : ∀ (us : List Value) (l : List (U.T c)), q9 (fun u x => (Rp c).rep G w u.cells.toList x) us l -> List (Raw (U.n c))
  | [], [], _ => []
  | u :: us, x :: l, h => d0n h.1 :: e9v us l h.2
  | [], _ :: _, h => h.elim
  | _ :: _, [], h => h.elim
theorem c9r {G : Nat -> Prop} {w : World} {c : U.C} : ∀ (us : List Value) (l : List (U.T c)) (h : q9 (fun u x => (Rp c).rep G w u.cells.toList x) us l), (e9v us l h).flatMap Subtype.val = us.flatMap (fun v => v.cells.toList) /\ q9 (fun (r : Raw (U.n c)) x => (Rp c).rep G w r.1 x) (e9v us l h) l /\ (e9v us l h).length = us.length
  | [], [], _ => ⟨rfl, trivial, rfl⟩
  | u :: us, x :: l, h => by
    obtain ⟨h1, h2, h3⟩ := c9r us l h.2
    exact ⟨by simp [e9v, h1, d0n], ⟨h.1, h2⟩, by simp [e9v, h3]⟩
  | [], _ :: _, h => h.elim
  | _ :: _, [], h => h.elim
theorem b9f {fr : Nat} {k : U.Q} (hev : (Q.rdM fr fun | .never => k | _ => (.fail : U.Q)).Ev σ m0 m v ws) : σ.mem fr = .never /\ ∃ m1, k.Ev σ m1 m v ws := by
  have hev : (match σ.mem fr with | .never => k | _ => (.fail : U.Q)).Ev σ _ m v ws := hev
  split at hev
  . rename_i h; exact ⟨h, _, hev⟩
  . exact hev.elim
theorem d8y {fz : List (Nat × U.MC)} (hf : FZ σ fz) (hn : σ.mem fr = .never) : (σ.app none .unk fz).mem fr = .never := by
  rw [a2e]
  cases hl : lk fr fz with
  | none => exact hn
  | some m => obtain ⟨e, c, l, h1, _⟩ := d66 hf hl; rw [hn] at h1; cases h1
theorem c0g {e n : Nat} (h : d4u P e n = true) : ∃ ie zv, P.info? e = some ie /\ ie.zero = some zv /\ zv.cells.size = n /\ ie.size = n /\ 0 < n /\ 0 < ie.bytes := by
  unfold d4u at h
  split at h
  . rename_i ie hie
    split at h
    . rename_i zv hz
      simp only [Bool.and_eq_true, decide_eq_true_eq] at h
      exact ⟨ie, zv, hie, hz, Nat.eq_of_beq_eq_true h.1.1.1, Nat.eq_of_beq_eq_true h.1.1.2, h.1.2, h.2⟩
    . cases h
  . cases h
theorem c3i (hU : UOK U) (h : Rel E Z π σ ρ w) {t : TypeId} {len : Nat} {psr : Array (Nat × Operand)} {as : List U.AV} (hx : q9 (AVR (cx Z π σ w)) as ((psr.toList.map (·.2)).map (ev ρ))) (hev : (b8e P fr t len (psr.toList.map (·.1)) as).Ev σ m0 m v ws) :
    a78 P E σ ρ w ⟨d, .buildSlice t len psr, ty, ps, af, g⟩ v ws := by
  unfold b8e at hev
  split at hev
  case h_2 => exact hev.elim
  rename_i e hu
  split at hev
  case h_2 => exact hev.elim
  rename_i c hc
  split at hev
  case h_2 => exact hev.elim
  rename_i hok
  obtain ⟨as', fz, m1, hev, _, hfz, _, hrep⟩ := c12 hU h hx hev
  have hrep := hrep fz hfz fun q hq => ⟨hq, d5n hq⟩
  split at hev
  case h_2 => exact hev.elim
  rename_i l hpl hpr
  obtain ⟨hn, m2, hm1, hv0, hws⟩ := b9f hev
  subst hv0
  rw [hws]
  simp only [Bool.and_eq_true] at hok
  obtain ⟨⟨⟨⟨⟨⟨⟨h1, h2⟩, h3⟩, h4⟩, h5⟩, h6⟩, h7⟩, h8⟩ := hok
  have h8 := Nat.le_of_ble_eq_true h8
  have h2 := Nat.eq_of_beq_eq_true h2
  have h3 := Nat.eq_of_beq_eq_true h3
  have h5 := Nat.le_of_ble_eq_true h5
  have h6 := Nat.le_of_ble_eq_true h6
  obtain ⟨e', he1, he2, he3, he4⟩ := a9j h4
  rw [hu] at he1
  cases he1
  have hR := h.freeze hfz
  refine b6i (ws := [(fr, .sl e c l)]) h hfz ?_
  have hrep1 := b1s (b4s hpl) hrep
  have hus := d3d hU hpr hrep1
  obtain ⟨g1, g2, g3⟩ := c9r _ _ hus
  have hsz : ∀ v ∈ (psr.toList.map (·.2)).map (ev ρ), v.cells.size = U.n c := by
    intro v hv
    obtain ⟨i, hi, rfl⟩ := List.getElem_of_mem hv
    obtain ⟨xv, _, hxr⟩ := hus.get (List.getElem?_eq_getElem hi)
    have := (Rp c).len hxr
    rw [Rp_n] at this
    rw [<- this]; simp
  have hlen : ((psr.toList.map (·.2)).map (ev ρ)).length = len := by rw [<- h2]; simp
  have hpe : (psr.map fun (i, x) => (i, ev ρ x)).toList = (((psr.toList.map (·.2)).map (ev ρ)).zipIdx 0).map fun x => (x.2, x.1) := by
    have hze : psr = psr.toList.toArray := by simp
    conv => lhs; rw [hze]
    rw [c66, c7x _ 0 _ h1 (by rw [hlen, h2])]
  obtain ⟨css, hcss⟩ : ∃ css, css = e9v _ _ hus := ⟨_, rfl⟩
  rw [<- hcss] at g1 g2 g3
  have hrun : ∃ cells : Array Value, cells.toList = css.flatMap Subtype.val /\ (Instr.buildSlice t len (psr.map fun (i, x) => (i, ev ρ x))).run P w = .ok (.slice (some ⟨w.heap.size, 0, none⟩) len len) (w.alloc (.cells cells e)) := by
    obtain ⟨ie, zv, hie, hz, hzs, hsz1, _, _⟩ := c0g h7
    have hsm : ¬ len * ie.size > 2 ^ 24 := by rw [hsz1]; omega
    have hpos : ¬ len * ie.size = 0 := by
      rw [hsz1]; exact Nat.ne_of_gt (Nat.mul_pos h8 he4)
    have hin : ((Array.range (len * ie.size)).map (zv.cells[· % zv.cells.size]!)).size = len * ie.size := by simp
    obtain ⟨r, hr, hrs, hrk⟩ := Great.fill_dense he4 ((psr.toList.map (·.2)).map (ev ρ)) 0 ((Array.range (len * ie.size)).map (zv.cells[· % zv.cells.size]!)) hsz (by rw [hin, hlen, hsz1, Nat.zero_add]; exact Nat.le_refl _)
    refine ⟨r, ?_, run_buildSlice w t e len _ r ie zv hu hie hz hsm hpos (by rw [hpe, hsz1]; rw [hsz1] at hr; exact hr)⟩
    apply List.ext_getElem?
    intro k
    rw [Array.getElem?_toList, hrk k, g1, c5i he4 _ _ hsz, hlen]
    simp only [Nat.zero_mul, Nat.zero_add, Nat.zero_le, true_and, Nat.sub_zero]
    split
    . rfl
    . rename_i hk
      rw [Array.getElem?_eq_none (by rw [hin, hsz1]; omega)]
      have : ((psr.toList.map (·.2)).map (ev ρ))[k / U.n c]? = none := by
        apply List.getElem?_eq_none
        rw [hlen]
        exact (Nat.le_div_iff_mul_le he4).2 (by omega)
      rw [this]; rfl
  obtain ⟨cells, hc1, hc2⟩ := hrun
  refine b6s hR (obj := .cells cells e) (v' := .slice (some ⟨w.heap.size, 0, none⟩) len len) (d8y hfz hn) (by simp [execOp, hc2]) (fun h => by cases h) rfl rfl (fun b hb => hb) ?_
  rintro X' hle hw hZ
  refine ⟨css, ?_, g2.mono fun r xv hh => b9h hle hh⟩
  have hcl : cells = (css.flatMap Subtype.val).toArray := by rw [<- hc1]
  have hM : Mb (w.alloc (.cells cells e)) w.heap.size e (css.flatMap Subtype.val) := by rw [hcl]; exact Mb.alloc w e _
  rw [hw]
  exact hM.own (B := 0) (Nat.zero_le _) (by rw [g3, hlen]) (by unfold maxLen; omega) (fun r => r.2.1)
end
end Go.SX
namespace Go.SX
open Go Go.PL
section
variable {P : Program} {U : Uni} {E : Env} {Z : Nat -> Prop} {π : Nat -> Value} {σ : U.St} {ρ : Nat -> Value} {w : World}
variable {d : Option Tmp} {ty : TypeId} {ps : String} {af : Array Edge} {g : Option (Nat × Bool)} {x y z : Operand} {m0 m : Nat} {a b v : U.AV} {ws : List (Nat × U.MC)} {fr : Nat}
def d5k (X : Cx) {c : U.C} (u : Value) (l : List (U.T c)) : Prop := ∃ (css : List (Raw (U.n c))), (∃ G, s7 (RAW (U.n c)) G X.w u css) /\ q9 (fun (r : Raw (U.n c)) x => (Rp c).rep X.G X.w r.1 x) css l
theorem b6u {X : Cx} {c : U.C} {u : Value} {l : List (U.T c)} (h : s7 (Rp c) X.G X.w u l) : d5k X u l := by
  obtain ⟨css, h1, h2⟩ := d6g h
  exact ⟨css, ⟨_, h1⟩, h2⟩
theorem d6r {X : Cx} {e : TypeId} {c : U.C} {u : Value} {l : List (U.T c)} (h : MR X (.sl e c l) u) : d5k X u l := by
  obtain ⟨css, hO, hr⟩ := h
  exact ⟨css, ⟨noG, hO.rep fun _ _ h => h⟩, hr⟩
theorem e60 (h : Rel E Z π σ ρ w) {c : U.C} {k : List (U.T c) -> U.Q} {u : Value} (hx : AVR (cx Z π σ w) a u) (hev : (rdL c a k).Ev σ m0 m v ws) :
    ∃ l m1, (k l).Ev σ m1 m v ws /\ d5k (cx Z π σ w) u l := by
  have key : ∀ {c' : U.C} {l' : List (U.T c')} {m1 : Nat}, (match b9c c l' with | some l => k l | none => (.fail : U.Q)).Ev σ m1 m v ws -> d5k (cx Z π σ w) u l' -> ∃ l m1, (k l).Ev σ m1 m v ws /\ d5k (cx Z π σ w) u l := by
    intro c' l' m1 hev hr
    split at hev
    . rename_i l hl
      obtain ⟨he, hx⟩ := a54 (G := noG) (w := w) hl
      subst he
      subst hx
      exact ⟨_, _, hev, hr⟩
    . exact hev.elim
  unfold rdL at hev
  split at hev
  . exact key hev (b6u hx)
  . exact ⟨[], _, hev, [], ⟨noG, .inl ⟨hx, rfl⟩⟩, trivial⟩
  . rename_i id
    have hm := h.mem id
    have hev : (match σ.mem id with
      | .sl _ _ l => (match b9c c l with | some l => k l | none => .fail)
      | .fz _ l => (match b9c c l with | some l => k l | none => .fail)
      | _ => (.fail : U.Q)).Ev σ _ m v ws := hev
    split at hev
    . rename_i e c' l' hmem
      rw [hmem] at hm
      exact key hev (by rw [hx.2.1]; exact d6r hm)
    . rename_i c' l' hmem
      rw [hmem] at hm
      exact key hev (by rw [hx.2.1]; exact b6u hm)
    . exact hev.elim
  . exact hev.elim
theorem b87 (hU : UOK U) {X : Cx} {c : U.C} (h8 : U.b8 c = true) {u : Value} {l : List (U.T c)} (h : d5k X u l) : ∃ G, s7 u8R G X.w u (l.map (U.t8 c)) := by
  obtain ⟨css, ⟨G, hR⟩, hr⟩ := h
  have hlen := hr.length
  rcases hR with ⟨hu, hn⟩ | ⟨a, cap, hv, hc, hm, hi⟩
  . subst hn
    cases l with
    | nil => exact ⟨G, .inl ⟨hu, rfl⟩⟩
    | cons _ _ => cases hlen
  . refine ⟨G, .inr ⟨a, cap, by rw [hv, List.length_map, hlen], by rw [List.length_map, <- hlen]; exact hc, hm, fun i x hx => ?_⟩⟩
    rw [List.getElem?_map] at hx
    obtain ⟨y, hy, rfl⟩ := Option.map_eq_some_iff.1 hx
    have hil : i < css.length := by rw [hlen]; exact (List.getElem?_eq_some_iff.1 hy).1
    have hri : css[i]? = some css[i] := List.getElem?_eq_getElem hil
    obtain ⟨y', hy', d, hd⟩ := hr.get hri
    rw [hy] at hy'
    cases hy'
    obtain ⟨cs, hcs, hb, hg, hca⟩ := hi i _ hri
    have hcs : cs = (css[i]).1 := hcs
    cases d with
    | zero => exact hd.elim
    | succ d =>
      obtain ⟨_, ks, hk, ha⟩ := hd
      have hf := hU.by8 c y h8
      rw [hf] at ha
      have hn : U.n c = 1 := by
        have h1 := hU.lay c y
        rw [hf] at h1
        rw [hU.sum c, <- h1]; rfl
      match ks, ha with
      | [k], ⟨hk1, _⟩ =>
        have hk1 : k = [.int .u8 (U.t8 c y)] := hk1
        subst hk1
        refine ⟨[.int .u8 (U.t8 c y)], rfl, hb, hg, ?_⟩
        have e : cs = [.int .u8 (U.t8 c y)] := by rw [hcs, hk]; rfl
        rw [e] at hca
        have e2 : (RAW (U.n c)).n = u8R.n := hn
        rw [e2] at hca
        exact hca
      | [], ha => exact ha.elim
      | _ :: _ :: _, ⟨_, ha⟩ => exact ha.elim
theorem e4x (hU : UOK U) (h : Rel E Z π σ ρ w) {s t : TypeId} (hb : e8r P s t = true) (hx : AVR (cx Z π σ w) a (ev ρ x)) (hev : (f82 P s a).Ev σ m0 m v ws) :
    a78 P E σ ρ w ⟨d, .convert s t x, ty, ps, af, g⟩ v ws := by
  unfold e8r at hb
  split at hb
  case h_2 => cases hb
  rename_i e' hs ht
  unfold f82 at hev
  split at hev
  case h_2 => exact hev.elim
  rename_i e hs'
  split at hev
  case h_2 => exact hev.elim
  rename_i c he hcd
  split at hev
  case h_2 => exact hev.elim
  rename_i h8
  obtain ⟨l, m1, ⟨hm, rfl, rfl⟩, hrd⟩ := e60 h hx hev
  obtain ⟨G, hR⟩ := b87 hU h8 hrd
  exact m7 h (f6t rfl (fun a n c w => run_convert_bytes_string w s t e a n c hs' he ht) hR) rfl
theorem d4n (h : Rel E Z π σ ρ w) {t : TypeId} (hx : AVR (cx Z π σ w) a (ev ρ x)) (hev : (d92 P fr t a).Ev σ m0 m v ws) : a78 P E σ ρ w ⟨d, .range t x, ty, ps, af, g⟩ v ws := by
  unfold d92 at hev
  split at hev
  case h_2 => exact hev.elim
  rename_i s
  split at hev
  case h_2 => exact hev.elim
  rename_i hs
  obtain ⟨hn, m1, hm, rfl, rfl⟩ := b9f hev
  unfold e2r at hs
  split at hs
  case h_2 => cases hs
  rename_i hu
  have hx : ev ρ x = .string s := hx
  refine b6s h (obj := .stringIter s 0) (v' := .pointer (some ⟨w.heap.size, 0, none⟩)) hn ?_ (fun h => by cases h) rfl rfl (fun b hb => hb) ?_
  . simp [execOp, hx, d65 hu, Result.andThen]
  . intro X' _ hw _; exact ⟨w.heap.size, rfl, Int.le_refl 0, by rw [hw]; show (w.heap.push (.stringIter s 0))[w.heap.size]? = _; simp⟩
theorem d9o (h : Rel E Z π σ ρ w) (hx : AVR (cx Z π σ w) a (ev ρ x)) (hev : (e9j a : U.Q).Ev σ m0 m v ws) : a78 P E σ ρ w ⟨d, .next x true, ty, ps, af, g⟩ v ws := by
  unfold e9j at hev
  split at hev
  case h_2 => exact hev.elim
  rename_i id
  have hev : (match σ.mem id with
    | .it s p => (.cas (c2q s p) (.done (.tup [.bool false]) [(id, .it s p)]) fun r => .opt r fun c => .done (.tup [.bool true, .int .i64 p, .int .i32 c]) [(id, .it s (p + 1))] : U.Q)
    | _ => .fail).Ev σ _ m v ws := hev
  split at hev
  case h_2 => exact hev.elim
  rename_i s p hmem
  have hm := h.mem id
  rw [hmem] at hm
  obtain ⟨b, hv, h0, hb⟩ := hm
  have hxv : ev ρ x = .pointer (some ⟨b, 0, none⟩) := by rw [hx.2.1]; exact hv
  have key : ∀ {c : Int} {s' : Int} {u : U.AV}, d7b s p = some c -> d5a s p = s' -> (∀ X' : Cx, AVR X' u (nxV (decide (p < (s.size : Int))) p c)) -> a78 P E σ ρ w ⟨d, .next x true, ty, ps, af, g⟩ u [(id, .it s s')] := by
    intro c s' u hc hs' hu
    obtain ⟨w', hr, hE, hI⟩ := d86 (P := P) (ty := ty) ⟨h0, hb⟩ hc
    have hr : (Instr.next (.pointer (some ⟨b, 0, none⟩)) true ty).run P w = .ok (nxV (decide (p < (s.size : Int))) p c) w' := hr
    have hrun : (execOp (ev ρ) ⟨d, .next x true, ty, ps, af, g⟩).run P w = .ok (.value (nxV (decide (p < (s.size : Int))) p c)) w' := by
      simp [execOp, hxv, hr, Result.andThen]
    unfold a78 a6r
    rw [hrun]
    refine ⟨Z, π, h.set (fun hh => by rw [hmem] at hh; cases hh) (fun hh => by cases hh) (hE.mono fun y hy => ?_) (fun X' _ hw => ?_) (fun y hy => ?_) fun X' _ => hu X'⟩
    . rw [hmem, hv, hy]; rfl
    . rw [hs'] at hI
      exact ⟨b, hv, hI.1, by rw [hw]; exact hI.2⟩
    . rw [hmem]; exact hy
  rcases hev with ⟨e, hm, rfl, rfl⟩ | ⟨r, e, hev⟩
  . unfold c2q at e
    split at e
    . cases e
    . rename_i hp
      exact key (c := 0) (by unfold d7b; rw [if_neg hp]) (by unfold d5a; rw [if_neg hp]) fun X' => by
        rw [decide_eq_false hp]; exact ⟨[.bool false], rfl, rfl, trivial⟩
  . obtain ⟨c, hc, hm, rfl, rfl⟩ := hev
    unfold c2q at e
    split at e
    . rename_i hp
      have e := Option.some.inj e
      rw [hc] at e
      exact key (c := c) (by unfold d7b; rw [if_pos hp]; exact e) (by unfold d5a; rw [if_pos hp]) fun X' => by
        rw [decide_eq_true hp]; exact ⟨[.bool true, .int .i64 p, .int .i32 c], rfl, rfl, rfl, rfl, trivial⟩
    . cases e
theorem a7v {α β : Type} {p : α -> β -> Prop} : ∀ {l l' : List α} {r r' : List β}, q9 p l r -> q9 p l' r' -> q9 p (l ++ l') (r ++ r')
  | [], _, [], _, _, h => h
  | _ :: _, _, _ :: _, _, h, h' => ⟨h.1, a7v h.2 h'⟩
  | [], _, _ :: _, _, hh, _ => hh.elim
  | _ :: _, _, [], _, hh, _ => hh.elim
theorem c8t (hU : UOK U) (h : Rel E Z π σ ρ w) {t e : TypeId} {c : U.C} {dead : List Nat} {l : List (U.T c)} (hu : P.underlying t = some (.slice e)) (hok : d4u P e (U.n c) = true)
    (hs : MR (cx Z π σ w) (.sl e c l) (ev ρ x)) (hdead : ∀ b, (ev ρ x).ownBlock = some b -> ∃ id ∈ dead, MB (σ.mem id) (π id) b) (hy : AVR (cx Z π σ w) b (ev ρ y))
    (hev : (f4x P fr e c (dead.map fun id => (id, .dead)) l b).Ev σ m0 m v ws) : a78 P E σ ρ w ⟨d, .call ⟨.builtin .append, #[x, y], #[t, t]⟩, ty, ps, af, g⟩ v ws := by
  unfold f4x at hev
  obtain ⟨xs, m1, hev, cx2, ⟨G, hR⟩, hxr⟩ := e60 h hy hev
  obtain ⟨r, hr, hev⟩ := hev
  obtain ⟨hn, m2, hm1, hv0, hws⟩ := b9f hev
  subst hv0
  rw [hws]
  obtain ⟨css, hO, hsr⟩ := hs
  obtain ⟨ie, zv, hie, hz, hzs, hsz1, hp1, hp2⟩ := c0g hok
  obtain ⟨hbytes, hrl⟩ := d79 hr
  have hbt : d8z P e = ie.bytes := by unfold d8z; rw [hie]
  obtain ⟨v', w', hrun, hO', hE, hblk⟩ := d5x (P := P) (t := t) (ty := ty) (bytes := ie.bytes) (cells := (Subtype.val : Raw (U.n c) -> List Value)) (fun r => r.2.1) (fun r => r.2.2) hu (by rw [hie]; simp [hz, hzs, hsz1]) hp1 hp2 hO ⟨G, hR⟩ (by rw [hsr.length, hxr.length, <- hbt]; exact hbytes) (Nat.zero_le _)
  unfold a78 a6r
  have hex : (execOp (ev ρ) ⟨d, .call ⟨.builtin .append, #[x, y], #[t, t]⟩, ty, ps, af, g⟩).run P w = .ok (.value v') w' := by
    have hrun2 : (Builtin.append_ #[t, t] ty #[ev ρ x, ev ρ y]).run P w = .ok v' w' := hrun
    simp [execOp, resolve, invoke, builtin, hrun2]
  rw [hex]
  refine ⟨Z, b8k π fr v', ?_⟩
  refine h.new hn (fun h => by cases h) (hE.mono hdead) ?_ (fun q hq => ?_) ?_
  . rintro X' hle hw hZ
    refine ⟨css ++ cx2, by rw [hw]; exact hO', ?_⟩
    rw [<- hrl]
    exact a7v (hsr.mono fun _ _ hh => b9h hle hh) (hxr.mono fun _ _ hh => b9h hle hh)
  . obtain ⟨ad, cap, hv, _⟩ := hO'.shape
    have hq2 : v'.ownBlock = some q := (b5z hv).2 hq
    refine ⟨(hO'.lt hq2).2, ?_⟩
    rcases hblk q hq2 with h1 | h1
    . exact .inr (hdead q h1)
    . exact .inl h1
  . obtain ⟨ad, cap, hv, _⟩ := hO'.shape
    rw [hv]; rfl
theorem e2z (hU : UOK U) (h : Rel E Z π σ ρ w) {t : TypeId} (hx : AVR (cx Z π σ w) a (ev ρ x)) (hy : AVR (cx Z π σ w) b (ev ρ y)) (hev : (f7v P fr t a b).Ev σ m0 m v ws) :
    a78 P E σ ρ w ⟨d, .call ⟨.builtin .append, #[x, y], #[t, t]⟩, ty, ps, af, g⟩ v ws := by
  unfold f7v at hev
  split at hev
  case h_2 => exact hev.elim
  rename_i e hu
  split at hev
  case h_2 => exact hev.elim
  rename_i c hc
  split at hev
  case h_2 => exact hev.elim
  rename_i hok
  split at hev
  . refine c8t (dead := []) (l := []) hU h hu hok ⟨[], ?_, trivial⟩ (fun b hb => ?_) hy hev
    . rw [show ev ρ x = .slice none 0 0 from hx]; exact Own.nil _ _ _ _ _
    . rw [show ev ρ x = .slice none 0 0 from hx] at hb; cases hb
  . rename_i id
    split at hev
    . exact hev.elim
    . have hm := h.mem id
      have hev : (match σ.mem id with
        | .sl e' c' l => (match Nat.beq e e' && eqC c' c, b9c c l with | true, some l => f4x P fr e c [(id, .dead)] l b | _, _ => (.fail : U.Q))
        | _ => (.fail : U.Q)).Ev σ _ m v ws := hev
      split at hev
      . rename_i e' c' l' hmem
        split at hev
        . rename_i l hbe hl
          simp only [Bool.and_eq_true] at hbe
          have h1 := Nat.eq_of_beq_eq_true hbe.1
          obtain ⟨he, hx2⟩ := a54 (G := noG) (w := w) hl
          subst he
          subst hx2
          subst h1
          rw [hmem] at hm
          refine c8t (dead := [id]) hU h hu hok (by rw [hx.2.1]; exact hm) (fun b hb => ⟨id, by simp, ?_⟩) hy hev
          rw [hx.2.1] at hb
          rw [hmem]
          obtain ⟨css, hO, _⟩ := hm
          obtain ⟨ad, cap, hv, _⟩ := hO.shape
          exact (b5z hv).1 hb
        . exact hev.elim
      . exact hev.elim
  . exact hev.elim
theorem b5s (h : Rel E Z π σ ρ w) {o : Option Operand} {d : Int} {k : Int -> U.Q} (hev : (bnd o d k).Ev σ m0 m v ws) : ∃ n m1, (k n).Ev σ m1 m v ws /\ ((o.map (ev ρ) = none /\ n = d) \/ o.map (ev ρ) = some (.int .i64 n)) := by
  unfold bnd at hev
  split at hev
  . exact ⟨_, _, hev, .inl ⟨rfl, rfl⟩⟩
  . rename_i op
    obtain ⟨a, m1, ha, hev⟩ := a1k h hev
    cases a <;> try exact hev.elim
    rename_i k n
    cases k <;> try exact hev.elim
    have ha : ev ρ op = .int .i64 n := ha
    exact ⟨n, m1, hev, .inr (by simp [ha])⟩
theorem c6m (h : Rel E Z π σ ρ w) {t : TypeId} {c : U.C} {l r : List (U.T c)} {lo hi : Option Operand} {i j : Int} (hx : s7 (Rp c) (cx Z π σ w).G w (ev ρ x) l) (he : b1q P t c = true)
    (hlo : (lo.map (ev ρ) = none /\ i = 0) \/ lo.map (ev ρ) = some (.int .i64 i)) (hhi : (hi.map (ev ρ) = none /\ j = (l.length : Int)) \/ hi.map (ev ρ) = some (.int .i64 j)) (hs : a3w l i j = some r) :
    a78 P E σ ρ w ⟨d, .slice t x lo hi none, ty, ps, af, g⟩ (.list c r) [] := by
  obtain ⟨e, he1, he2, _, _⟩ := a9j he
  obtain ⟨u, hrun, hrep⟩ := e9q (P := P) he1 (b0h he2) hx hs hlo hhi
  exact m7 h (v := u) (by simp [YV, execOp, hrun]) hrep
theorem d9z {s r : ByteArray} {a b : Int} (h : b5f s a b = some r) : 0 <= a /\ a <= b /\ b <= (s.size : Int) /\ r = s.extract a.toNat b.toNat := by
  unfold b5f at h
  split at h
  . rename_i hc; exact ⟨hc.1, hc.2.1, hc.2.2, (Option.some.inj h).symm⟩
  . cases h
theorem d4i {t : TypeId} {s r : ByteArray} {lo hi : Option Value} {i j : Int} (ht : P.underlying t = some .string) (hlo : (lo = none /\ i = 0) \/ lo = some (.int .i64 i)) (hhi : (hi = none /\ j = (s.size : Int)) \/ hi = some (.int .i64 j)) (hs : b5f s i j = some r) :
    (Instr.sliceAt t (.string s) lo hi none).run P w = .ok (.string r) w := by
  obtain ⟨h0, h1, h2, rfl⟩ := d9z hs
  have hj : (0 <= j /\ j <= (s.size : Int)) := by omega
  have hij : (0 <= i /\ i <= (j.toNat : Int)) := by omega
  rcases hlo with ⟨rfl, rfl⟩ | rfl <;> rcases hhi with ⟨rfl, hl⟩ | rfl
  . have e1 : j.toNat = s.size := by omega
    simp [Instr.sliceAt, Instr.slice, run_underlying ht, Instr.sliceBounds, e1]
  . simp [Instr.sliceAt, Instr.slice, run_underlying ht, Instr.sliceBounds, Instr.sliceBound, asIntOf, hj]
  . have e1 : j.toNat = s.size := by omega
    rw [e1] at hij
    simp [Instr.sliceAt, Instr.slice, run_underlying ht, Instr.sliceBounds, Instr.sliceBound, asIntOf, hij, e1]
  . simp [Instr.sliceAt, Instr.slice, run_underlying ht, Instr.sliceBounds, Instr.sliceBound, asIntOf, hj, hij]
    omega
theorem d53 (hU : UOK U) (h : Rel E Z π σ ρ w) {t : TypeId} {lo hi : Option Operand} (hx : AVR (cx Z π σ w) a (ev ρ x)) (hev : (e0x P t a lo hi).Ev σ m0 m v ws) :
    a78 P E σ ρ w ⟨d, .slice t x lo hi none, ty, ps, af, g⟩ v ws := by
  unfold e0x at hev
  split at hev
  . rename_i s
    split at hev
    . rename_i ht
      obtain ⟨i, m1, hev, hlo⟩ := b5s h hev
      obtain ⟨j, m2, hev, hhi⟩ := b5s h hev
      obtain ⟨r, hr, hm1, rfl, rfl⟩ := hev
      have hrun := d4i (w := w) ht hlo hhi hr
      have hx : ev ρ x = .string s := hx
      exact m7 h (v := .string r) (by simp [YV, execOp, hx, hrun]) rfl
    . exact hev.elim
  . rename_i c l
    split at hev
    . rename_i he
      obtain ⟨i, m1, hev, hlo⟩ := b5s h hev
      obtain ⟨j, m2, hev, hhi⟩ := b5s h hev
      obtain ⟨r, hr, hm1, rfl, rfl⟩ := hev
      exact c6m h hx he hlo hhi hr
    . exact hev.elim
  . rename_i id
    have hm := h.mem id
    simp only [Q.Ev] at hev
    split at hev
    . rename_i e0 c l hmem
      split at hev
      . rename_i he
        obtain ⟨i, m1, hev, hlo⟩ := b5s h hev
        obtain ⟨j, m2, hev, hhi⟩ := b5s h hev
        obtain ⟨r, hr, hm1, rfl, rfl⟩ := hev
        have hfz : FZ σ [(id, .fz c l)] := by
          intro id' m' hh
          simp at hh
          obtain ⟨rfl, rfl⟩ := hh
          exact ⟨e0, c, l, hmem, rfl⟩
        refine b6i (ws := []) h hfz ?_
        have h1 := h.freeze hfz
        refine c6m h1 ?_ he hlo hhi hr
        have hm1 := h1.mem id
        rw [a2e, d12] at hm1
        rw [hx.2.1]; exact hm1
      . exact hev.elim
    . rename_i c l hmem
      split at hev
      . rename_i he
        obtain ⟨i, m1, hev, hlo⟩ := b5s h hev
        obtain ⟨j, m2, hev, hhi⟩ := b5s h hev
        obtain ⟨r, hr, hm1, rfl, rfl⟩ := hev
        rw [hmem] at hm
        exact c6m h (by rw [hx.2.1]; exact hm) he hlo hhi hr
      . exact hev.elim
    . exact hev.elim
  . exact hev.elim
end
end Go.SX
namespace Go.SX
open Go Go.PL
section
variable {P : Program} {U : Uni}
def cz (Z : Nat -> Prop) (w : World) : Cx := ⟨Z, fun _ => undef, fun _ => False, w⟩
theorem a8f {X X' : Cx} {a : U.AV} {u : Value} (hk : b92 a = true) (h : a36 X a u) (hw : X'.w = X.w) (hz : ∀ b, X.Z b -> X'.Z b) : a36 X' a u := by
  cases a <;> first
    | (cases hk; done)
    | exact h
    | (obtain ⟨cs, hu, hr⟩ := h
       refine ⟨cs, hu, ?_⟩
       rw [hw]
       exact (Rp _).weaken hr fun b _ hb hz' => hb (hz b hz'))
    | (show s7 (Rp _) X'.G X'.w u _
       rw [hw]
       exact s7.weaken h fun b _ hb hz' => hb (hz b hz'))
    | (obtain ⟨ad, cs, hu, hb, hg, hca, hr⟩ := h
       refine ⟨ad, cs, hu, ?_⟩
       rw [hw]
       exact ⟨hb, fun hn => hg fun hz' => hn (hz _ hz'), hca, hr.weaken fun b _ hb hz' => hb (hz b hz')⟩)
theorem b86 (hU : UOK U) {X : Cx} {c : U.C} {a : U.AV} {x : U.T c} (h : prj c a = some x) {u : Value} (hr : a36 X a u) : a36 X (inj c x) u := by
  unfold prj at h
  unfold inj
  cases ha : U.ag c with
  | true =>
    rw [ha] at h
    have key : ∀ {c' : U.C} {x' : U.T c'}, cst c x' = some x -> a36 X (.val c' x') u -> a36 X (.val c x) u := by
      intro c' x' h hr
      unfold cst at h
      split at h
      . rename_i he _; subst he; cases h; exact hr
      . cases h
    cases a <;> try (cases h; done)
    case val c' x' => exact key h hr
    case st c' as =>
      dsimp only at h
      split at h
      . rename_i x' hk
        obtain ⟨css, hu, _, _, hh⟩ := hr
        exact key h ⟨css.flatten, hu, d22 hU hk hh⟩
      . cases h
  | false =>
    rw [ha] at h
    have hk := hU.mkl c [a] x h
    cases hl : U.flds c x with
    | nil => rw [hl] at hk; exact hk.elim
    | cons b r => rw [hl] at hk; cases r with
      | nil => exact d3z hk.1 hr
      | cons _ _ => exact hk.2.elim
theorem d7k : ∀ (m : List (Nat × Nat)) (l l' : List U.AV) (j : Nat), ((∃ id, (j, id) ∈ m /\ (j < l.length -> (b4b m l)[j]? = some (.ref id)))) \/ ((b4b m l)[j]? = l[j]? /\ (c47 m l')[j]? = l'[j]?)
  | [], l, l', j => .inr ⟨rfl, rfl⟩
  | q :: m, l, l', j => by
    have hlen : ∀ (m : List (Nat × Nat)) (l : List U.AV), (b4b m l).length = l.length := by
      intro m l
      induction m with
      | nil => rfl
      | cons q m ih => simp [b4b, ih]
    by_cases hq : q.1 = j
    . left
      subst hq
      exact ⟨q.2, List.mem_cons_self, fun hj => by simp [b4b, hlen, hj]⟩
    . rcases d7k m l l' j with ⟨id, h1, h2⟩ | ⟨h1, h2⟩
      . left
        refine ⟨id, List.mem_cons_of_mem _ h1, fun hj => ?_⟩
        simp only [b4b]
        rw [List.getElem?_set_ne hq]; exact h2 hj
      . right
        simp only [b4b, c47]
        rw [List.getElem?_set_ne hq, List.getElem?_set_ne hq]
        exact ⟨h1, h2⟩
theorem b2q : ∀ (m : List (Nat × Nat)) (l : List U.AV), (b4b m l).length = l.length
  | [], _ => rfl
  | q :: m, l => by simp [b4b, b2q m l]
theorem d03 : ∀ (m : List (Nat × Nat)) (l : List U.AV), (c47 m l).length = l.length
  | [], _ => rfl
  | q :: m, l => by simp [c47, d03 m l]
theorem b6r {fs : List U.AV} {f i : Nat} (h : c1h fs f = some i) : fs[f]? = some (.ref i) := by
  unfold c1h at h
  split at h
  . rename_i j hj; cases h; exact hj
  . cases h
theorem c70 (hU : UOK U) {X X' : Cx} {c : U.C} {fs : List U.AV} {m : List (Nat × Nat)} {x : U.T c} {css : List (List Value)} (hlay : fs.map a0n = U.lay c) (hpp : fs.all a0h = true) (hr : q9 (fun a s => ∃ u : Value, u.cells.toList = s /\ b4c X a u) fs css) (hk : U.mkv c (c47 m fs) = some x)
    (hw : X'.w = X.w) (hz : ∀ b, X.Z b -> X'.Z b) (href : ∀ j id, (j, id) ∈ m -> ∃ i, fs[j]? = some (.ref i) /\ X'.us id /\ X'.π id = X.π i) :
    (b4b m (U.flds c x)).map a0n = U.lay c /\ (b4b m (U.flds c x)).all a0h = true /\ q9 (fun a s => ∃ u : Value, u.cells.toList = s /\ b4c X' a u) (b4b m (U.flds c x)) css := by
  have hA := hU.mkl c _ x hk
  have hkd := hU.kind c x
  have hL := hU.lay c x
  have hlen : (U.flds c x).length = fs.length := by
    have h1 := q9.length hA
    rw [d03] at h1; exact h1.symm
  have hat : ∀ (j : Nat) (a : U.AV), (b4b m (U.flds c x))[j]? = some a -> a0h a = true /\ (U.lay c)[j]? = some (a0n a) /\ ∀ s u, fs[j]? ≠ none -> css[j]? = some s -> (∀ a0, fs[j]? = some a0 -> b4c X a0 u) -> b4c X' a u := by
    intro j a ha
    have hj : j < (U.flds c x).length := by
      have := (List.getElem?_eq_some_iff.1 ha).1
      rwa [b2q] at this
    rcases d7k m (U.flds c x) fs j with ⟨id, h1, h2⟩ | ⟨h1, h2⟩
    . rw [h2 hj] at ha
      cases ha
      obtain ⟨i, hi, hus, hπ⟩ := href j id h1
      refine ⟨rfl, ?_, fun s u _ _ hu => ?_⟩
      . rw [<- hlay, List.getElem?_map, hi]; rfl
      . obtain ⟨g1, g2, g3⟩ := hu _ hi
        exact ⟨hus, by rw [hπ]; exact g2, g3⟩
    . rw [h1] at ha
      have hka : b92 a = true := List.all_eq_true.1 hkd a (List.mem_of_getElem? ha)
      have hpa : a0h a = true := by cases a <;> first | rfl | cases hka
      refine ⟨hpa, ?_, fun s u hfj _ hu => ?_⟩
      . rw [<- hL, List.getElem?_map, ha]; rfl
      . cases hf : fs[j]? with
        | none => exact absurd hf hfj
        | some a0 =>
          have h0 := hu a0 hf
          rw [hf] at h2
          obtain ⟨b, hb, hab⟩ := hA.get h2
          rw [ha] at hb
          cases hb
          exact a36.to0 hpa (a8f hka (d3z hab (.of0 h0)) hw hz)
  refine ⟨?_, ?_, ?_⟩
  . apply List.ext_getElem?
    intro j
    rw [List.getElem?_map]
    cases ha : (b4b m (U.flds c x))[j]? with
    | some a => rw [(hat j a ha).2.1]; rfl
    | none =>
      have : (b4b m (U.flds c x)).length <= j := List.getElem?_eq_none_iff.1 ha
      rw [b2q] at this
      rw [<- hL, List.getElem?_map, List.getElem?_eq_none this]
  . rw [List.all_eq_true]
    intro a ha
    obtain ⟨j, hj⟩ := List.getElem?_of_mem ha
    exact (hat j a hj).1
  . refine q9.of_get (by rw [b2q, hlen]; exact hr.length) fun j a s ha hs => ?_
    have hj : j < fs.length := by rw [hr.length]; exact (List.getElem?_eq_some_iff.1 hs).1
    have hfj : fs[j]? = some fs[j] := List.getElem?_eq_getElem hj
    obtain ⟨s', hs', u, hu, hru⟩ := hr.get hfj
    rw [hs] at hs'
    cases hs'
    exact ⟨u, hu, (hat j a ha).2.2 s u (by rw [hfj]; intro h; cases h) hs fun a0 h0 => by rw [hfj] at h0; rw [<- Option.some.inj h0]; exact hru⟩
theorem d6n {G G' : Nat -> Prop} {w w' : World} (hU : UOK U) : ∀ (k : Nat) (c : U.C) (cs : List Value) (x : U.T c), U.flat c = true -> (Rd k c).rep G w cs x -> (Rd k c).rep G' w' cs x
  | 0, _, _, _, _, h => False.elim h
  | k + 1, c, cs, x, hf, ⟨hl, css, hc, h⟩ => by
    refine ⟨hl, css, hc, ?_⟩
    have hfl := hU.flat c x hf
    clear hl hc
    generalize U.flds c x = fs at h hfl
    induction fs generalizing css with
    | nil => cases css with
      | nil => trivial
      | cons _ _ => exact h.elim
    | cons a fs ih => cases css with
      | nil => exact h.elim
      | cons s css =>
        simp only [List.all_cons, Bool.and_eq_true] at hfl
        refine ⟨?_, ih css h.2 hfl.2⟩
        have h1 := h.1
        cases a <;> simp only [k8] at h1 ⊢ <;> first
          | exact h1
          | (cases hfl.1; done)
          | exact d6n hU k _ _ _ hfl.1 h1
theorem c60 (hU : UOK U) {G G' : Nat -> Prop} {w w' : World} {c : U.C} (hf : U.flat c = true) {cs : List Value} {x : U.T c} (h : (Rp c).rep G w cs x) : (Rp c).rep G' w' cs x := by
  obtain ⟨k, h⟩ := h
  exact ⟨k, d6n hU k c cs x hf h⟩
def AR (σ : U.St) (π : Nat -> Value) (X : Cx) (all : List Value) : (p : PK U.C) -> Value -> p.T U -> List Nat -> Prop
  | .v c, u, x, i => i = [] /\ a36 X (inj c x) u
  | .ls c, u, l, i => i = [] /\ s7 (Rp c) X.G X.w u l
  | .rp _ c, u, x, i => i = [] /\ a36 X (.rp (inj c x)) u
  | .ow e c, u, l, i => (i = [] /\ u = .slice none 0 0 /\ l = []) \/ ∃ id, i = [id] /\ u = π id /\ σ.mem id = .sl e c l
  | .io t c, u, x, i => ∃ id b, i = [id] /\ u = π id /\ σ.mem id = .box t b /\ prj c b = some x
  | .im t c m, u, x, i => ∃ id fs, i = [id] /\ u = π id /\ σ.mem id = .box t (.st c fs) /\ U.mkv c (c47 m fs) = some x /\ ∀ f k, (f, k) ∈ m -> ∃ j, fs[f]? = some (.ref j) /\ all[k]? = some (π j)
  | .po _ _ e c, u, l, i => ∃ id, i = [id] /\ u = π id /\ σ.mem id = .sl e c l
  | .so e c, u, l, i => ∃ id, i = [id] /\ u = π id /\ σ.mem id = .sl e c l
  | .cl f cs, u, x, i => i = [] /\ ∃ vs : List Value, u = .func (.func f) #[] vs.toArray /\ q9 (a36 X) (e1l cs x) vs
def ARs (σ : U.St) (π : Nat -> Value) (X : Cx) (all : List Value) : (ps : List (PK U.C)) -> List Value -> Args U ps -> List (List Nat) -> Prop
  | [], [], _, [] => True
  | p :: ps, u :: us, (x, xs), i :: is => AR σ π X all p u x i /\ ARs σ π X all ps us xs is
  | _, _, _, _ => False
def RR (X : Cx) : (r : RK U.C) -> r.T U -> Value -> Prop
  | .v c, x, u => a36 X (inj c x) u
  | .ls c, x, u => s7 (Rp c) X.G X.w u x
  | .ow e c, x, u => MR X (.sl e c x) u
  | .bo _ _, none, u => u = .pointer none
  | .bo t c, some x, u => MR X (.box t (inj c x)) u
def RRs (X : Cx) : (rs : List (RK U.C)) -> Ress U rs -> List Value -> Prop
  | [], _, [] => True
  | r :: rs, (x, xs), u :: us => RR X r x u /\ RRs X rs xs us
  | _, _, _ => False
def OR (X : Cx) : (ps : List (PK U.C)) -> Outs U ps -> List Value -> Prop
  | [], _, [] => True
  | .io t c :: ps, (x, xs), u :: us => MR X (.box t (inj c x)) u /\ OR X ps xs us
  | .im t c m :: ps, (x, xs), u :: us => MR X (.box t (.st c (b4b m (U.flds c x)))) u /\ OR X ps xs us
  | .po _ _ e c :: ps, (x, xs), u :: us => MR X (.sl e c x) u /\ OR X ps xs us
  | .so e c :: ps, (x, xs), u :: us => MR X (.sl e c x) u /\ OR X ps xs us
  | .v _ :: ps, xs, _ :: us => OR X ps xs us
  | .ls _ :: ps, xs, _ :: us => OR X ps xs us
  | .ow _ _ :: ps, xs, _ :: us => OR X ps xs us
  | .rp _ _ :: ps, xs, _ :: us => OR X ps xs us
  | .cl _ _ :: ps, xs, _ :: us => OR X ps xs us
  | _, _, _ => False
def c00 : List (RK U.C) -> List Value -> List Value
  | .ow _ _ :: rs, u :: us => u :: c00 rs us
  | .bo _ _ :: rs, u :: us => u :: c00 rs us
  | _ :: rs, _ :: us => c00 rs us
  | _, _ => []
def ioB : List (PK U.C) -> List Value -> List Value
  | .io _ _ :: ps, u :: us => u :: ioB ps us
  | .im _ _ _ :: ps, u :: us => u :: ioB ps us
  | .po _ _ _ _ :: ps, u :: us => u :: ioB ps us
  | .so _ _ :: ps, u :: us => u :: ioB ps us
  | _ :: ps, _ :: us => ioB ps us
  | _, _ => []
def f0o : List Value -> Value
  | [u] => u
  | us => .tuple us.toArray
def c4k (us : List Value) : Nat -> Value := fun t => us.getD t undef
def czO (Z : Nat -> Prop) (ps : List (PK U.C)) (us : List Value) (w : World) : Cx := ⟨Z, c4k us, fun k => ∃ p, ps[k]? = some p /\ c6w p = true, w⟩
structure Post (s : Sig U) (Z G : Nat -> Prop) (w : World) (args : List Value) (r : Ress U s.rs × Outs U s.ps) (u : Value) (w' : World) : Prop where
  ex : ∃ (Z' : Nat -> Prop) (us : List Value) (args' : List Value), u = f0o us /\ (∀ b, Z b -> Z' b) /\ (∀ b, Z' b -> Z b \/ G b \/ (w.heap.size <= b /\ b < w'.heap.size)) /\ Ext G w w' /\
    args'.length = args.length /\ (∀ (i : Nat) (p : PK U.C), s.ps[i]? = some p -> c6w p = false -> args'[i]? = args[i]?) /\
    RRs (cz Z' w') s.rs r.1 us /\ OR (czO Z' s.ps args' w') s.ps r.2 args' /\
    (∀ v ∈ c00 s.rs us ++ ioB s.ps args', ∀ b, hdV v = some b -> ¬ Z' b /\ b < w'.heap.size /\ (G b \/ w.heap.size <= b)) /\
    (∀ (i j : Nat) (v v' : Value) (b : Nat), i ≠ j -> (c00 s.rs us ++ ioB s.ps args')[i]? = some v -> (c00 s.rs us ++ ioB s.ps args')[j]? = some v' -> hdV v = some b -> hdV v' ≠ some b)
def c04 (ps : List (PK U.C)) (i : Nat) : Prop := (∃ t c, ps[i]? = some (.io t c)) \/ (∃ t c m, ps[i]? = some (.im t c m)) \/ ∃ e c, ps[i]? = some (.so e c)
def Spec (P : Program) (f : FuncId) (fe : Fent U) : Prop :=
  ∀ (xs : Args U fe.s.ps) (b : fe.B), fe.F xs = some b -> ∀ (Z G : Nat -> Prop) (w : World) (us : List Value),
    us.length = fe.s.ps.length -> Rel ⟨w, G, Z, c04 fe.s.ps, c4k us⟩ Z (c4k us) (a0o 0 fe.s.ps xs) (c4k (us.take (npK fe.s.ps))) w -> Calls P f (us.take (npK fe.s.ps)).toArray w fun e w' => ∃ u, e = .returned u /\ Post fe.s Z G w us (fe.wr b) u w'
def d42 (P : Program) (f : FuncId) : Prop := ∀ (args : Array Value) (w : World), (callFunc f args).run P w = .ok (.enter f args) w
def d7i (P : Program) (f : FuncId) (fe : Fent U) : Prop :=
  ∀ (xs : Args U fe.s.ps) (b : fe.B), fe.F xs = some b -> ∀ (Z G : Nat -> Prop) (w : World) (us : List Value),
    us.length = fe.s.ps.length -> Rel ⟨w, G, Z, c04 fe.s.ps, c4k us⟩ Z (c4k us) (a0o 0 fe.s.ps xs) (c4k (us.take (npK fe.s.ps))) w -> ∃ u w', (callFunc f (us.take (npK fe.s.ps)).toArray).run P w = .ok (.value u) w' /\ Post fe.s Z G w us (fe.wr b) u w'
def e3h (P : Program) (f : FuncId) (fe : Fent U) : Prop := (Spec P f fe /\ d42 P f) \/ d7i P f fe
section
variable {E : Env} {Z : Nat -> Prop} {π : Nat -> Value} {σ : U.St} {ρ : Nat -> Value} {w : World}
variable {m0 m : Nat} {a b v : U.AV} {ws : List (Nat × U.MC)} {fr : Nat}
def b2i (σ : U.St) (π : Nat -> Value) (fz : List (Nat × U.MC)) (b : Nat) : Prop := ∃ q ∈ fz, MB (σ.mem q.1) (π q.1) b
theorem f1o (hU : UOK U) (h : Rel E Z π σ ρ w) {nf : Bool} {c : U.C} {u : Value} {k : U.T c -> List (Nat × U.MC) -> U.Q} (hx : AVR (cx Z π σ w) a u) (hev : (rpQ nf c a k).Ev σ m0 m v ws) :
    ∃ x fz m1, (k x fz).Ev σ m1 m v ws /\ (nf = true -> FZ σ fz) /\ (∀ q ∈ fz, σ.mem q.1 ≠ .never) /\ ∀ Z', (∀ b, Z b -> Z' b) -> (∀ b, b2i σ π fz b -> Z' b) -> a36 (cz Z' w) (.rp (inj c x)) u := by
  unfold rpQ at hev
  split at hev
  . rename_i b0
    split at hev
    . rename_i x hp
      refine ⟨x, [], _, hev, fun _ => (fun _ _ hh => by cases hh), (fun _ hh => by cases hh), fun Z' hz _ => ?_⟩
      obtain ⟨ad, cs, hv, hb, hg, hca, hr⟩ := hx
      refine ⟨ad, cs, hv, hb, fun hn => hg fun hz' => hn (hz _ hz'), hca, ?_⟩
      obtain ⟨u1, hu1, hr1⟩ := a3l hr
      have h1 := b5v hU hp hr1
      rw [hu1] at h1
      exact (b42 hU h1).weaken fun b _ hb hz' => hb (hz b hz')
    . exact hev.elim
  . rename_i id
    split at hev
    . exact hev.elim
    . simp only [Q.Ev] at hev
      have hm := h.mem id
      split at hev
      . rename_i t' b0 hmem
        split at hev
        . rename_i x hp
          rw [hmem] at hm
          obtain ⟨blk, u1, hv, hM, ha⟩ := hm
          refine ⟨x, _, _, hev, (fun hnf => by cases hnf), (fun q hh => by simp at hh; subst hh; rw [hmem]; intro h; cases h), fun Z' hz hb => ⟨⟨blk, 0, none⟩, u1.cells.toList, by rw [hx.2.1]; exact hv, hM.lt, fun hn => hn (hb blk ⟨_, List.mem_singleton.2 rfl, ?_⟩), hM.ca, ?_⟩⟩
          . show MB (σ.mem id) (π id) blk
            rw [hmem, hv]; rfl
          . exact (b42 hU (b5v hU hp ha)).weaken fun b _ hb hz' => hb (hz b hz')
        . exact hev.elim
      . exact hev.elim
  . exact hev.elim
theorem e6i (hU : UOK U) (h : Rel E Z π σ ρ w) {nf : Bool} : ∀ {cs : List U.C} {as : List U.AV} {vs : List Value} {k : CapT U cs -> List (Nat × U.MC) -> U.Q} {m0 m : Nat} {v : U.AV} {ws : List (Nat × U.MC)}, q9 (a36 (cx Z π σ w)) as vs -> (f6e nf cs as k).Ev σ m0 m v ws ->
    ∃ x fz m1, (k x fz).Ev σ m1 m v ws /\ (nf = true -> FZ σ fz) /\ (∀ q ∈ fz, σ.mem q.1 ≠ .never) /\ ∀ Z', (∀ b, Z b -> Z' b) -> (∀ b, b2i σ π fz b -> Z' b) -> q9 (a36 (cz Z' w)) (e1l cs x) vs
  | [], [], [], k, m0, m, v, ws, _, hev => ⟨(), [], m0, hev, fun _ => (fun _ _ hh => by cases hh), (fun _ hh => by cases hh), fun _ _ _ => trivial⟩
  | c :: cs, a :: as, u :: us, k, m0, m, v, ws, hx, hev => by
    obtain ⟨x, fz, m1, hev, h1, h2, h4⟩ := f1o hU h (AVR.of1 hx.1) hev
    obtain ⟨xs, fzs, m2, hev, g1, g2, g4⟩ := e6i hU h hx.2 hev
    refine ⟨(x, xs), fz ++ fzs, m2, hev, fun hnf id m hh => ?_, fun q hh => ?_, fun Z' hz hb => ⟨h4 Z' hz fun b ⟨q, hq, hb'⟩ => hb b ⟨q, List.mem_append_left _ hq, hb'⟩, g4 Z' hz fun b ⟨q, hq, hb'⟩ => hb b ⟨q, List.mem_append_right _ hq, hb'⟩⟩⟩
    . rcases List.mem_append.1 hh with hh | hh
      . exact h1 hnf id m hh
      . exact g1 hnf id m hh
    . rcases List.mem_append.1 hh with hh | hh
      . exact h2 q hh
      . exact g2 q hh
  | [], _ :: _, _, _, _, _, _, _, _, hev => hev.elim
  | _ :: _, [], _, _, _, _, _, _, _, hev => hev.elim
  | [], [], _ :: _, _, _, _, _, _, hx, _ => hx.elim
  | _ :: _, _ :: _, [], _, _, _, _, _, hx, _ => hx.elim
theorem f4n (hU : UOK U) (h : Rel E Z π σ ρ w) {nf : Bool} {all : List U.AV} {ua : List Value} (hall : q9 (AVR (cx Z π σ w)) all ua) {p : PK U.C} {u : Value} {k : p.T U -> List Nat -> List (Nat × U.MC) -> U.Q} (hx : AVR (cx Z π σ w) a u) (hev : (e1j nf all p a k).Ev σ m0 m v ws) :
    ∃ x i fz m1, (k x i fz).Ev σ m1 m v ws /\ (nf = true -> FZ σ fz) /\ (∀ q ∈ fz, σ.mem q.1 ≠ .never) /\ (∀ id ∈ i, σ.mem id ≠ .never) /\ ∀ Z', (∀ b, Z b -> Z' b) -> (∀ b, b2i σ π fz b -> Z' b) -> AR σ π (cz Z' w) ua p u x i := by
  have trl : ∀ {c : U.C} {l : List (U.T c)} (Z' : Nat -> Prop), (∀ b, Z b -> Z' b) -> s7 (Rp c) (cx Z π σ w).G w u l -> s7 (Rp c) (cz Z' w).G (cz Z' w).w u l := fun Z' hz hr => s7.weaken hr fun b _ hb hz' => hb (hz b hz')
  cases p with
  | v c =>
    simp only [e1j] at hev
    split at hev
    . rename_i x hp
      refine ⟨x, [], [], _, hev, fun _ => (fun _ _ hh => by cases hh), (fun _ hh => by cases hh), (fun _ hh => by cases hh), fun Z' hz _ => ⟨rfl, ?_⟩⟩
      have hs : b5n a = true := by
        have := c6i hU hp
        cases a <;> first
          | rfl
          | (exfalso
             unfold prj at hp
             cases hag : U.ag c <;> rw [hag] at hp <;> try (cases hp; done)
             have hk := hU.mkl c _ x hp
             have hkd := hU.kind c x
             cases hl : U.flds c x with
             | nil => rw [hl] at hk; exact hk.elim
             | cons b r =>
               rw [hl] at hk hkd
               simp only [List.all_cons, Bool.and_eq_true] at hkd
               rcases hk.1 with h1 | ⟨h1, _⟩
               . rw [<- h1] at hkd; cases hkd.1
               . cases h1)
      exact a8f (X' := cz Z' w) (a4j hU c x).1 (b86 hU hp (a83 hs hx)) rfl hz
    . exact hev.elim
  | ls c =>
    simp only [e1j, argL] at hev
    split at hev
    . split at hev
      . rename_i l hl
        obtain ⟨he, hx2⟩ := a54 (G := noG) (w := w) hl
        subst he; subst hx2
        exact ⟨_, [], [], _, hev, fun _ => (fun _ _ hh => by cases hh), (fun _ hh => by cases hh), (fun _ hh => by cases hh), fun Z' hz _ => ⟨rfl, trl Z' hz hx⟩⟩
      . exact hev.elim
    . exact ⟨[], [], [], _, hev, fun _ => (fun _ _ hh => by cases hh), (fun _ hh => by cases hh), (fun _ hh => by cases hh), fun Z' hz _ => ⟨rfl, .inl ⟨hx, rfl⟩⟩⟩
    . rename_i id
      have hm := h.mem id
      simp only [Q.Ev] at hev
      split at hev
      . rename_i e c' l' hmem
        split at hev
        . rename_i l hl
          obtain ⟨he, hx2⟩ := a54 (G := noG) (w := w) hl
          subst he; subst hx2
          refine ⟨_, [], _, _, hev, fun _ => (fun id' m' hh => by simp at hh; obtain ⟨rfl, rfl⟩ := hh; exact ⟨e, _, _, hmem, rfl⟩), (fun q hh => by simp at hh; subst hh; rw [hmem]; intro h; cases h), (fun _ hh => by cases hh), fun Z' hz hb => ⟨rfl, ?_⟩⟩
          rw [hmem] at hm
          rw [hx.2.1]
          refine c3u (X := cx Z π σ w) (Z' := Z') hm hz fun b hb' => hb b ⟨_, List.mem_singleton.2 rfl, ?_⟩
          show MB (σ.mem id) (π id) b
          rw [hmem]
          obtain ⟨css, hO, _⟩ := hm
          obtain ⟨ad, cap, hv, _⟩ := hO.shape
          exact (b5z hv).1 hb'
        . exact hev.elim
      . rename_i c' l' hmem
        split at hev
        . rename_i l hl
          obtain ⟨he, hx2⟩ := a54 (G := noG) (w := w) hl
          subst he; subst hx2
          rw [hmem] at hm
          exact ⟨_, [], [], _, hev, fun _ => (fun _ _ hh => by cases hh), (fun _ hh => by cases hh), (fun _ hh => by cases hh), fun Z' hz _ => ⟨rfl, by rw [hx.2.1]; exact s7.weaken hm fun b _ hb hz' => hb (hz b hz')⟩⟩
        . exact hev.elim
      . exact hev.elim
    . exact hev.elim
  | ow e c =>
    simp only [e1j] at hev
    split at hev
    . exact ⟨[], [], [], _, hev, fun _ => (fun _ _ hh => by cases hh), (fun _ hh => by cases hh), (fun _ hh => by cases hh), fun Z' hz _ => .inl ⟨rfl, hx, rfl⟩⟩
    . rename_i id
      simp only [Q.Ev] at hev
      split at hev
      . rename_i e' c' l' hmem
        split at hev
        . rename_i l hbe hl
          have h1 := Nat.eq_of_beq_eq_true hbe
          obtain ⟨he, hx2⟩ := a54 (G := noG) (w := w) hl
          subst he; subst hx2; subst h1
          exact ⟨_, [id], [], _, hev, fun _ => (fun _ _ hh => by cases hh), (fun _ hh => by cases hh), (fun q hh => by simp at hh; subst hh; rw [hmem]; intro h; cases h), fun Z' hz _ => .inr ⟨id, rfl, hx.2.1, hmem⟩⟩
        . exact hev.elim
      . exact hev.elim
    . exact hev.elim
  | rp t c =>
    obtain ⟨x, fz, m1, h1, h2, h3, h4⟩ := f1o hU h hx hev
    exact ⟨x, [], fz, m1, h1, h2, h3, (fun _ hh => by cases hh), fun Z' hz hb => ⟨rfl, h4 Z' hz hb⟩⟩
  | cl f cs =>
    simp only [e1j] at hev
    split at hev
    . rename_i f' as
      split at hev
      . rename_i hf
        have := Nat.eq_of_beq_eq_true hf
        subst this
        obtain ⟨vs, hv, hr⟩ := hx
        obtain ⟨x, fz, m1, h1, h2, h3, h4⟩ := e6i hU h hr hev
        exact ⟨x, [], fz, m1, h1, h2, h3, (fun _ hh => by cases hh), fun Z' hz hb => ⟨rfl, vs, hv, h4 Z' hz hb⟩⟩
      . exact hev.elim
    . exact hev.elim
  | po b f e c =>
    simp only [e1j] at hev
    split at hev
    . rename_i id
      simp only [Q.Ev] at hev
      split at hev
      . rename_i e' c' l' hmem
        split at hev
        . rename_i l hbe hl
          have h1 := Nat.eq_of_beq_eq_true hbe
          obtain ⟨he, hx2⟩ := a54 (G := noG) (w := w) hl
          subst he; subst hx2; subst h1
          exact ⟨_, [id], [], _, hev, fun _ => (fun _ _ hh => by cases hh), (fun _ hh => by cases hh), (fun q hh => by simp at hh; subst hh; rw [hmem]; intro h; cases h), fun Z' hz _ => ⟨id, rfl, hx.2.1, hmem⟩⟩
        . exact hev.elim
      . exact hev.elim
    . exact hev.elim
  | so e c =>
    simp only [e1j] at hev
    split at hev
    . rename_i id
      simp only [Q.Ev] at hev
      split at hev
      . rename_i e' c' l' hmem
        split at hev
        . rename_i l hbe hl
          have h1 := Nat.eq_of_beq_eq_true hbe
          obtain ⟨he, hx2⟩ := a54 (G := noG) (w := w) hl
          subst he; subst hx2; subst h1
          exact ⟨_, [id], [], _, hev, fun _ => (fun _ _ hh => by cases hh), (fun _ hh => by cases hh), (fun q hh => by simp at hh; subst hh; rw [hmem]; intro h; cases h), fun Z' hz _ => ⟨id, rfl, hx.2.1, hmem⟩⟩
        . exact hev.elim
      . exact hev.elim
    . exact hev.elim
  | im t c mm =>
    simp only [e1j] at hev
    split at hev
    . rename_i id
      simp only [Q.Ev] at hev
      split at hev
      . rename_i t' c' fs hmem
        split at hev
        . rename_i x hck hp
          simp only [Bool.and_eq_true] at hck
          have h1 := Nat.eq_of_beq_eq_true hck.1.1
          subst h1
          have h2 := b5h hck.1.2
          subst h2
          refine ⟨x, [id], [], _, hev, fun _ => (fun _ _ hh => by cases hh), (fun _ hh => by cases hh), (fun q hh => by simp at hh; subst hh; rw [hmem]; intro h; cases h), fun Z' hz _ => ⟨id, fs, rfl, hx.2.1, hmem, hp, fun f k hk => ?_⟩⟩
          have hmo := List.all_eq_true.1 hck.2 _ hk
          dsimp only at hmo
          split at hmo
          . rename_i i j hi hj
            have hij := Nat.eq_of_beq_eq_true hmo
            subst hij
            obtain ⟨uk, huk, hrk⟩ := hall.get hj
            exact ⟨i, b6r hi, by rw [huk, hrk.2.1]; rfl⟩
          . cases hmo
        . exact hev.elim
      . exact hev.elim
    . exact hev.elim
  | io t c =>
    simp only [e1j] at hev
    split at hev
    . rename_i id
      simp only [Q.Ev] at hev
      split at hev
      . rename_i t' b0 hmem
        split at hev
        . rename_i x hbe hp
          have h1 := Nat.eq_of_beq_eq_true hbe
          subst h1
          exact ⟨x, [id], [], _, hev, fun _ => (fun _ _ hh => by cases hh), (fun _ hh => by cases hh), (fun q hh => by simp at hh; subst hh; rw [hmem]; intro h; cases h), fun Z' hz _ => ⟨id, b0, rfl, hx.2.1, hmem, hp⟩⟩
        . exact hev.elim
      . exact hev.elim
    . exact hev.elim
theorem e1f (hU : UOK U) (h : Rel E Z π σ ρ w) {nf : Bool} {all : List U.AV} {ua : List Value} (hall : q9 (AVR (cx Z π σ w)) all ua) : ∀ {ps : List (PK U.C)} {as : List U.AV} {us : List Value} {k : Args U ps -> List (List Nat) -> List (Nat × U.MC) -> U.Q} {m0 m : Nat} {v : U.AV} {ws : List (Nat × U.MC)}, q9 (AVR (cx Z π σ w)) as us -> (e9z nf all ps as k).Ev σ m0 m v ws ->
    ∃ xs is fz m1, (k xs is fz).Ev σ m1 m v ws /\ (nf = true -> FZ σ fz) /\ (∀ q ∈ fz, σ.mem q.1 ≠ .never) /\ (∀ i ∈ is, ∀ id ∈ i, σ.mem id ≠ .never) /\ ∀ Z', (∀ b, Z b -> Z' b) -> (∀ b, b2i σ π fz b -> Z' b) -> ARs σ π (cz Z' w) ua ps us xs is
  | [], [], [], k, m0, m, v, ws, _, hev => ⟨(), [], [], m0, hev, fun _ => (fun _ _ hh => by cases hh), (fun _ hh => by cases hh), (fun _ hh => by cases hh), fun _ _ _ => trivial⟩
  | p :: ps, a :: as, u :: us, k, m0, m, v, ws, hx, hev => by
    obtain ⟨x, i, fz, m1, hev, h1, h2, h3, h4⟩ := f4n hU h hall hx.1 hev
    obtain ⟨xs, is, fzs, m2, hev, g1, g2, g3, g4⟩ := e1f hU h hall hx.2 hev
    refine ⟨(x, xs), i :: is, fz ++ fzs, m2, hev, fun hnf id m hh => ?_, fun q hh => ?_, fun j hj => ?_, fun Z' hz hb => ⟨h4 Z' hz fun b ⟨q, hq, hb'⟩ => hb b ⟨q, List.mem_append_left _ hq, hb'⟩, g4 Z' hz fun b ⟨q, hq, hb'⟩ => hb b ⟨q, List.mem_append_right _ hq, hb'⟩⟩⟩
    . rcases List.mem_append.1 hh with hh | hh
      . exact h1 hnf id m hh
      . exact g1 hnf id m hh
    . rcases List.mem_append.1 hh with hh | hh
      . exact h2 q hh
      . exact g2 q hh
    . rcases List.mem_cons.1 hj with hj | hj
      . subst hj; exact h3
      . exact g3 j hj
  | [], _ :: _, _, _, _, _, _, _, _, hev => hev.elim
  | _ :: _, [], _, _, _, _, _, _, _, hev => hev.elim
  | [], [], _ :: _, _, _, _, _, _, hx, _ => hx.elim
  | _ :: _, _ :: _, [], _, _, _, _, _, hx, _ => hx.elim
theorem f2p (h : Rel E Z π σ ρ w) : ∀ {ps : List (PK U.C)} {as : List U.AV} {k : List U.AV -> U.Q} {m0 m : Nat} {v : U.AV} {ws : List (Nat × U.MC)}, (e6q ps as k).Ev σ m0 m v ws -> ∃ ex vs m1, q9 (AVR (cx Z π σ w)) ex vs /\ (k ex).Ev σ m1 m v ws := by
  intro ps
  induction ps with
  | nil => intro as k m0 m v ws hev; exact ⟨[], [], m0, trivial, by simpa [e6q] using hev⟩
  | cons p ps ih =>
    intro as k m0 m v ws hev
    cases as with
    | nil =>
      have e : e6q (p :: ps) [] k = k [] := by cases p <;> rfl
      rw [e] at hev
      exact ⟨[], [], m0, trivial, hev⟩
    | cons a as =>
      have skip : (e6q ps as k).Ev σ m0 m v ws -> ∃ ex vs m1, q9 (AVR (cx Z π σ w)) ex vs /\ (k ex).Ev σ m1 m v ws := fun h => ih h
      cases p with
      | im t c mm =>
        cases a <;> try exact skip hev
        rename_i id
        have hm := h.mem id
        have hev : (match σ.mem id with
          | .box _ (.st _ fs) => e6q ps as fun r => k ((mm.filterMap fun (q : Nat × Nat) => (c1h fs q.1).map (AV.ref : Nat -> U.AV)) ++ r)
          | _ => .fail).Ev σ (m0 ||| 2 ^ (2 * id + 1)) m v ws := hev
        split at hev
        . rename_i t' c' fs hmem
          obtain ⟨ex, vs, m1, h1, h2⟩ := ih hev
          rw [hmem] at hm
          obtain ⟨blk, u, hv, hM, css, hu, hlay, hpp, hr⟩ := hm
          have hfld : ∀ l : List (Nat × Nat), ∃ vs : List Value, q9 (AVR (cx Z π σ w)) (l.filterMap fun (q : Nat × Nat) => (c1h fs q.1).map (AV.ref : Nat -> U.AV)) vs := by
            intro l
            induction l with
            | nil => exact ⟨[], trivial⟩
            | cons q l ih =>
              obtain ⟨vs, hvs⟩ := ih
              cases hra : c1h fs q.1 with
              | none => exact ⟨vs, by simpa [List.filterMap_cons, hra] using hvs⟩
              | some i =>
                obtain ⟨s, hs, u1, hu1, hr1⟩ := hr.get (b6r hra)
                refine ⟨u1 :: vs, ?_⟩
                simp only [List.filterMap_cons, hra, Option.map_some]
                exact ⟨hr1, hvs⟩
          obtain ⟨vs0, hvs0⟩ := hfld mm
          exact ⟨_, vs0 ++ vs, m1, a7v hvs0 h1, h2⟩
        . exact hev.elim
      | _ => exact skip (by cases a <;> exact hev)
end
end
end Go.SX
namespace Go.SX
open Go Go.PL
section
variable {P : Program} {U : Uni}
variable {E : Env} {Z : Nat -> Prop} {π : Nat -> Value} {σ : U.St} {ρ : Nat -> Value} {w : World}
variable {m0 m : Nat} {a b v : U.AV} {ws : List (Nat × U.MC)} {fr : Nat}
theorem a1a {k t : Nat} {a : U.AV} {l : List (Nat × U.AV)} {me : List (Nat × U.MC)} {nx : Nat} : St.slot ⟨(k, a) :: l, me, nx⟩ t = if k = t then a else St.slot ⟨l, me, nx⟩ t := by
  simp only [St.slot, lk]
  cases hk : Nat.beq k t with
  | true => rw [if_pos (Nat.eq_of_beq_eq_true hk)]; rfl
  | false => rw [if_neg (Nat.ne_of_beq_eq_false hk)]; rfl
theorem mem_cons {k t : Nat} {a : U.MC} {l : List (Nat × U.AV)} {me : List (Nat × U.MC)} {nx : Nat} : St.mem ⟨l, (k, a) :: me, nx⟩ t = if k = t then a else St.mem ⟨l, me, nx⟩ t := by
  simp only [St.mem, lk]
  cases hk : Nat.beq k t with
  | true => rw [if_pos (Nat.eq_of_beq_eq_true hk)]; rfl
  | false => rw [if_neg (Nat.ne_of_beq_eq_false hk)]; rfl
theorem f4z {X X' : Cx} {a : U.AV} {u : Value} (hw : X'.w = X.w) (hz : X'.Z = X.Z) (h : a36 X (.rp a) u) : a36 X' (.rp a) u := by
  obtain ⟨ad, cs, hv, hb, hg, hca, hr⟩ := h
  have hG : X'.G = X.G := by unfold Cx.G; rw [hz]
  exact ⟨ad, cs, hv, by rw [hw]; exact hb, by rw [hG]; exact hg, by rw [hw]; exact hca, by rw [hG, hw]; exact hr⟩
theorem e5k {X X' : Cx} (hw : X'.w = X.w) (hz : X'.Z = X.Z) : ∀ (cs : List U.C) (x : CapT U cs) (vs : List Value), q9 (a36 X) (e1l cs x) vs -> q9 (a36 X') (e1l cs x) vs
  | [], _, [], _ => trivial
  | [], _, _ :: _, h => h.elim
  | _ :: _, _, [], h => h.elim
  | c :: cs, (x, xs), u :: us, h => ⟨f4z hw hz h.1, e5k hw hz cs xs us h.2⟩
theorem f0v (hU : UOK U) (h : Rel E Z π σ ρ w) {Zc : Nat -> Prop} {ρc : Nat -> Value} {X : Cx} (h1 : X.Z = Zc) (h2 : X.w = w) (h3 : X.π = ρc) {all : List Value} : ∀ (ps : List (PK U.C)) (k : Nat) (us : List Value) (xs : Args U ps) (is : List (List Nat)), ARs σ π (cz Zc w) all ps us xs is -> (∀ (j : Nat) v, us[j]? = some v -> ρc (k + j) = v) -> (∀ id, (a0o k ps xs).mem id ≠ .never -> X.us id) ->
    ∀ t, AVR X ((a0o k ps xs).slot t) (ρc t)
  | [], k, us, xs, is, _, _, _, t => trivial
  | p :: ps, k, [], xs, is, h, _, _, _ => h.elim
  | p :: ps, k, u :: us, (x, xs), [], h, _, _, _ => h.elim
  | p :: ps, k, u :: us, (x, xs), i :: is, ⟨ha, hr⟩, hρ, hus, t => by
    have hk : ρc k = u := by simpa using hρ 0 u rfl
    have ih := f0v hU h h1 h2 h3 ps (k + 1) us xs is hr (fun j v hv => by have := hρ (j + 1) v (by simpa using hv); rwa [show k + (j + 1) = k + 1 + j by omega] at this)
    have fld : ∀ {c : U.C} {x : U.T c} {u : Value}, a36 (cz Zc w) (inj c x) u -> AVR X (inj c x) u := fun hh => AVR.of1 (a8f (a4j hU _ _).1 hh h2 (by rw [h1]; exact fun _ h => h))
    cases p with
    | v c =>
      show AVR X (St.slot ⟨(k, inj c x) :: (a0o (k + 1) ps xs).sl, _, _⟩ t) _
      rw [a1a]
      split
      . rename_i e; subst e; rw [hk]; exact fld ha.2
      . exact ih hus t
    | ls c =>
      show AVR X (St.slot ⟨(k, .list c x) :: (a0o (k + 1) ps xs).sl, _, _⟩ t) _
      rw [a1a]
      split
      . rename_i e; subst e; rw [hk]
        show s7 (Rp c) X.G X.w u x
        unfold Cx.G; rw [h2, h1]; exact ha.2
      . exact ih hus t
    | rp ty c =>
      show AVR X (St.slot ⟨(k, .rp (inj c x)) :: (a0o (k + 1) ps xs).sl, _, _⟩ t) _
      rw [a1a]
      split
      . rename_i e; subst e; rw [hk]
        obtain ⟨ad, cs, hv, hb, hg, hca, hr⟩ := ha.2
        refine ⟨ad, cs, hv, ?_, ?_, ?_, ?_⟩
        . rw [h2]; exact hb
        . unfold Cx.G; rw [h1]; exact hg
        . rw [h2]; exact hca
        . unfold Cx.G; rw [h2, h1]; exact hr
      . exact ih hus t
    | ow e c =>
      have hus2 : ∀ id, (a0o (k + 1) ps xs).mem id ≠ .never -> X.us id := fun id hid => hus id (by
        show St.mem ⟨_, (k, .sl e c x) :: (a0o (k + 1) ps xs).me, _⟩ id ≠ _
        rw [mem_cons]; split
        . intro h; cases h
        . exact hid)
      show AVR X (St.slot ⟨(k, .ref k) :: (a0o (k + 1) ps xs).sl, _, _⟩ t) _
      rw [a1a]
      split
      . rename_i e'; subst e'
        refine ⟨hus k ?_, by rw [h3], ?_⟩
        . show St.mem ⟨_, (k, .sl e c x) :: (a0o (k + 1) ps xs).me, _⟩ k ≠ _
          rw [mem_cons, if_pos rfl]; intro h; cases h
        . rw [hk]
          rcases ha with ⟨_, hu, _⟩ | ⟨id, _, hu, hmem⟩
          . rw [hu]; rfl
          . obtain ⟨ad, cap, hv⟩ := d2g h (.inl ⟨e, hmem⟩)
            rw [hu, hv]; rfl
      . exact ih hus2 t
    | io ty c =>
      have hus2 : ∀ id, (a0o (k + 1) ps xs).mem id ≠ .never -> X.us id := fun id hid => hus id (by
        show St.mem ⟨_, (k, .box ty (inj c x)) :: (a0o (k + 1) ps xs).me, _⟩ id ≠ _
        rw [mem_cons]; split
        . intro h; cases h
        . exact hid)
      show AVR X (St.slot ⟨(k, .ref k) :: (a0o (k + 1) ps xs).sl, _, _⟩ t) _
      rw [a1a]
      split
      . rename_i e'; subst e'
        refine ⟨hus k ?_, by rw [h3], ?_⟩
        . show St.mem ⟨_, (k, .box ty (inj c x)) :: (a0o (k + 1) ps xs).me, _⟩ k ≠ _
          rw [mem_cons, if_pos rfl]; intro h; cases h
        . rw [hk]
          obtain ⟨id, b, _, hu, hmem, _⟩ := ha
          have hm := h.mem id
          rw [hmem] at hm
          obtain ⟨blk, u1, hv, _⟩ := hm
          rw [hu, hv]; rfl
      . exact ih hus2 t
    | im ty c m =>
      have hus2 : ∀ id, (a0o (k + 1) ps xs).mem id ≠ .never -> X.us id := fun id hid => hus id (by
        show St.mem ⟨_, (k, .box ty (.st c (b4b m (U.flds c x)))) :: (a0o (k + 1) ps xs).me, _⟩ id ≠ _
        rw [mem_cons]; split
        . intro h; cases h
        . exact hid)
      show AVR X (St.slot ⟨(k, .ref k) :: (a0o (k + 1) ps xs).sl, _, _⟩ t) _
      rw [a1a]
      split
      . rename_i e'; subst e'
        refine ⟨hus k ?_, by rw [h3], ?_⟩
        . show St.mem ⟨_, (k, .box ty (.st c (b4b m (U.flds c x)))) :: (a0o (k + 1) ps xs).me, _⟩ k ≠ _
          rw [mem_cons, if_pos rfl]; intro h; cases h
        . rw [hk]
          obtain ⟨id, fs, _, hu, hmem, _⟩ := ha
          have hm := h.mem id
          rw [hmem] at hm
          obtain ⟨blk, u1, hv, _⟩ := hm
          rw [hu, hv]; rfl
      . exact ih hus2 t
    | so e c =>
      have hus2 : ∀ id, (a0o (k + 1) ps xs).mem id ≠ .never -> X.us id := fun id hid => hus id (by
        show St.mem ⟨_, (k, .sl e c x) :: (a0o (k + 1) ps xs).me, _⟩ id ≠ _
        rw [mem_cons]; split
        . intro h; cases h
        . exact hid)
      show AVR X (St.slot ⟨(k, .ref k) :: (a0o (k + 1) ps xs).sl, _, _⟩ t) _
      rw [a1a]
      split
      . rename_i e'; subst e'
        refine ⟨hus k ?_, by rw [h3], ?_⟩
        . show St.mem ⟨_, (k, .sl e c x) :: (a0o (k + 1) ps xs).me, _⟩ k ≠ _
          rw [mem_cons, if_pos rfl]; intro h; cases h
        . rw [hk]
          obtain ⟨id, _, hu, hmem⟩ := ha
          obtain ⟨ad, cap, hv⟩ := d2g h (.inl ⟨e, hmem⟩)
          rw [hu, hv]; rfl
      . exact ih hus2 t
    | po b f e c =>
      have hus2 : ∀ id, (a0o (k + 1) ps xs).mem id ≠ .never -> X.us id := fun id hid => hus id (by
        show St.mem ⟨_, (k, .sl e c x) :: (a0o (k + 1) ps xs).me, _⟩ id ≠ _
        rw [mem_cons]; split
        . intro h; cases h
        . exact hid)
      exact ih hus2 t
    | cl f cs =>
      show AVR X (St.slot ⟨(k, .clo f (e1l cs x)) :: (a0o (k + 1) ps xs).sl, _, _⟩ t) _
      rw [a1a]
      split
      . rename_i e; subst e; rw [hk]
        obtain ⟨_, vs, hv, hr⟩ := ha
        exact ⟨vs, hv, e5k (by rw [h2]; rfl) (by rw [h1]; rfl) cs x vs hr⟩
      . exact ih hus t
theorem f4i (hU : UOK U) (h : Rel E Z π σ ρ w) {Zc : Nat -> Prop} (hz : ∀ b, Z b -> Zc b) {ρc : Nat -> Value} {X : Cx} (h1 : X.Z = Zc) (h2 : X.w = w) (h3 : X.π = ρc) {all : List Value} (hall : ∀ k u, all[k]? = some u -> ρc k = u) : ∀ (ps : List (PK U.C)) (k : Nat) (us : List Value) (xs : Args U ps) (is : List (List Nat)), ARs σ π (cz Zc w) all ps us xs is -> (∀ (j : Nat) v, us[j]? = some v -> ρc (k + j) = v) -> (∀ t c m q, .im t c m ∈ ps -> q ∈ m -> X.us q.2) ->
    (∀ id, MR X ((a0o k ps xs).mem id) (ρc id)) /\ ∀ i b, MB ((a0o k ps xs).mem i) (ρc i) b -> ∃ j id, i = k + j /\ is[j]? = some [id] /\ MB (σ.mem id) (π id) b
  | [], k, us, xs, is, _, _, _ => ⟨fun _ => trivial, fun _ _ h => h.elim⟩
  | p :: ps, k, [], xs, is, h, _, _ => h.elim
  | p :: ps, k, u :: us, (x, xs), [], h, _, _ => h.elim
  | p :: ps, k, u :: us, (x, xs), i :: is, ⟨ha, hr⟩, hρ, hmu => by
    have hk : ρc k = u := by simpa using hρ 0 u rfl
    obtain ⟨ih1, ih2⟩ := f4i hU h hz h1 h2 h3 hall ps (k + 1) us xs is hr (fun j v hv => by have := hρ (j + 1) v (by simpa using hv); rwa [show k + (j + 1) = k + 1 + j by omega] at this) (fun t c m q hm hq => hmu t c m q (List.mem_cons_of_mem _ hm) hq)
    have ih2' : ∀ i' b, MB ((a0o (k + 1) ps xs).mem i') (ρc i') b -> ∃ j id, i' = k + j /\ (i :: is)[j]? = some [id] /\ MB (σ.mem id) (π id) b := fun i' b hb => by
      obtain ⟨j, id, e, h3, h4⟩ := ih2 i' b hb
      exact ⟨j + 1, id, by omega, by simpa using h3, h4⟩
    cases p with
    | v c => exact ⟨ih1, ih2'⟩
    | ls c => exact ⟨ih1, ih2'⟩
    | rp ty c => exact ⟨ih1, ih2'⟩
    | ow e c =>
      refine ⟨fun id => ?_, fun i' b hb => ?_⟩
      . show MR X (St.mem ⟨_, (k, .sl e c x) :: (a0o (k + 1) ps xs).me, _⟩ id) _
        rw [mem_cons]
        split
        . rename_i e'; subst e'
          rw [hk]
          rcases ha with ⟨_, hu, hl⟩ | ⟨id, _, hu, hmem⟩
          . subst hl; rw [hu]; exact ⟨[], Own.nil _ _ _ _ _, trivial⟩
          . have hm := h.mem id
            rw [hmem] at hm
            obtain ⟨css, hO, hr⟩ := hm
            refine ⟨css, by rw [hu, h2]; exact hO, hr.mono fun r xv hh => ?_⟩
            rw [h2]; unfold Cx.G; rw [h1]
            exact (Rp c).weaken hh fun b _ hb hz' => hb (hz b hz')
        . exact ih1 id
      . have hb : MB (St.mem ⟨(a0o k (.ow e c :: ps) (x, xs)).sl, (k, .sl e c x) :: (a0o (k + 1) ps xs).me, (a0o (k + 1) ps xs).nx⟩ i') (ρc i') b := hb
        rw [mem_cons] at hb
        split at hb
        . rename_i e'; subst e'
          rw [hk] at hb
          rcases ha with ⟨_, hu, hl⟩ | ⟨id, hi, hu, hmem⟩
          . rw [hu] at hb; cases hb
          . refine ⟨0, id, by omega, by rw [hi]; rfl, ?_⟩
            rw [hmem, <- hu]; exact hb
        . exact ih2' i' b hb
    | io ty c =>
      refine ⟨fun id => ?_, fun i' b hb => ?_⟩
      . show MR X (St.mem ⟨_, (k, .box ty (inj c x)) :: (a0o (k + 1) ps xs).me, _⟩ id) _
        rw [mem_cons]
        split
        . rename_i e'; subst e'
          rw [hk]
          obtain ⟨id, b, _, hu, hmem, hp⟩ := ha
          have hm := h.mem id
          rw [hmem] at hm
          obtain ⟨blk, u1, hv, hM, hr⟩ := hm
          refine ⟨blk, u1, by rw [hu]; exact hv, by rw [h2]; exact hM, ?_⟩
          exact a8f (X' := X) (a4j hU c x).1 (b86 hU hp hr) h2 (by rw [h1]; exact hz)
        . exact ih1 id
      . have hb : MB (St.mem ⟨(a0o k (.io ty c :: ps) (x, xs)).sl, (k, .box ty (inj c x)) :: (a0o (k + 1) ps xs).me, (a0o (k + 1) ps xs).nx⟩ i') (ρc i') b := hb
        rw [mem_cons] at hb
        split at hb
        . rename_i e'; subst e'
          rw [hk] at hb
          obtain ⟨id, b0, hi, hu, hmem, hp⟩ := ha
          refine ⟨0, id, by omega, by rw [hi]; rfl, ?_⟩
          rw [hmem, <- hu]; exact hb
        . exact ih2' i' b hb
    | cl f cs => exact ⟨ih1, ih2'⟩
    | po b0 f e c =>
      refine ⟨fun id => ?_, fun i' b hb => ?_⟩
      . show MR X (St.mem ⟨_, (k, .sl e c x) :: (a0o (k + 1) ps xs).me, _⟩ id) _
        rw [mem_cons]
        split
        . rename_i e'; subst e'
          rw [hk]
          obtain ⟨id, _, hu, hmem⟩ := ha
          have hm := h.mem id
          rw [hmem] at hm
          obtain ⟨css, hO, hr⟩ := hm
          refine ⟨css, by rw [hu, h2]; exact hO, hr.mono fun r xv hh => ?_⟩
          rw [h2]; unfold Cx.G; rw [h1]
          exact (Rp c).weaken hh fun b _ hb hz' => hb (hz b hz')
        . exact ih1 id
      . have hb : MB (St.mem ⟨(a0o k (.po b0 f e c :: ps) (x, xs)).sl, (k, .sl e c x) :: (a0o (k + 1) ps xs).me, (a0o (k + 1) ps xs).nx⟩ i') (ρc i') b := hb
        rw [mem_cons] at hb
        split at hb
        . rename_i e'; subst e'
          rw [hk] at hb
          obtain ⟨id, hi, hu, hmem⟩ := ha
          refine ⟨0, id, by omega, by rw [hi]; rfl, ?_⟩
          rw [hmem, <- hu]; exact hb
        . exact ih2' i' b hb
    | so e c =>
      refine ⟨fun id => ?_, fun i' b hb => ?_⟩
      . show MR X (St.mem ⟨_, (k, .sl e c x) :: (a0o (k + 1) ps xs).me, _⟩ id) _
        rw [mem_cons]
        split
        . rename_i e'; subst e'
          rw [hk]
          obtain ⟨id, _, hu, hmem⟩ := ha
          have hm := h.mem id
          rw [hmem] at hm
          obtain ⟨css, hO, hr⟩ := hm
          refine ⟨css, by rw [hu, h2]; exact hO, hr.mono fun r xv hh => ?_⟩
          rw [h2]; unfold Cx.G; rw [h1]
          exact (Rp c).weaken hh fun b _ hb hz' => hb (hz b hz')
        . exact ih1 id
      . have hb : MB (St.mem ⟨(a0o k (.so e c :: ps) (x, xs)).sl, (k, .sl e c x) :: (a0o (k + 1) ps xs).me, (a0o (k + 1) ps xs).nx⟩ i') (ρc i') b := hb
        rw [mem_cons] at hb
        split at hb
        . rename_i e'; subst e'
          rw [hk] at hb
          obtain ⟨id, hi, hu, hmem⟩ := ha
          refine ⟨0, id, by omega, by rw [hi]; rfl, ?_⟩
          rw [hmem, <- hu]; exact hb
        . exact ih2' i' b hb
    | im ty c m =>
      refine ⟨fun id => ?_, fun i' b hb => ?_⟩
      . show MR X (St.mem ⟨_, (k, .box ty (.st c (b4b m (U.flds c x)))) :: (a0o (k + 1) ps xs).me, _⟩ id) _
        rw [mem_cons]
        split
        . rename_i e'; subst e'
          rw [hk]
          obtain ⟨id, fs, _, hu, hmem, hp, hmm⟩ := ha
          have hm := h.mem id
          rw [hmem] at hm
          obtain ⟨blk, u1, hv, hM, css, hu1, hlay, hpp, hr⟩ := hm
          obtain ⟨k1, k2, k3⟩ := c70 hU (X := cx Z π σ w) (X' := X) hlay hpp hr hp h2 (by rw [h1]; exact hz) fun j jd hj => by
            obtain ⟨j', hj1, hj2⟩ := hmm j jd hj
            exact ⟨j', hj1, hmu ty c m _ List.mem_cons_self hj, by rw [h3]; exact hall _ _ hj2⟩
          exact ⟨blk, u1, by rw [hu]; exact hv, by rw [h2]; exact hM, css, hu1, k1, k2, k3⟩
        . exact ih1 id
      . have hb : MB (St.mem ⟨(a0o k (.im ty c m :: ps) (x, xs)).sl, (k, .box ty (.st c (b4b m (U.flds c x)))) :: (a0o (k + 1) ps xs).me, (a0o (k + 1) ps xs).nx⟩ i') (ρc i') b := hb
        rw [mem_cons] at hb
        split at hb
        . rename_i e'; subst e'
          rw [hk] at hb
          obtain ⟨id, fs, hi, hu, hmem, hp, _⟩ := ha
          refine ⟨0, id, by omega, by rw [hi]; rfl, ?_⟩
          rw [hmem, <- hu]; exact hb
        . exact ih2' i' b hb
theorem b4j : ∀ {l : List (List Nat)}, c0v l = true -> ∀ (i j : Nat) (p q : List Nat) (a b : Nat), l[i]? = some p -> l[j]? = some q -> a ∈ p -> b ∈ q -> i ≠ j -> a ≠ b
  | [], _, i, j, p, q, a, b, hi, _, _, _, _ => by simp at hi
  | p0 :: l, h, i, j, p, q, a, b, hi, hj, ha, hb, hne => by
    simp only [c0v, Bool.and_eq_true] at h
    have cross : ∀ (p q : List Nat) (j a b : Nat), p = p0 -> l[j]? = some q -> a ∈ p -> b ∈ q -> a ≠ b := by
      intro p q j a b hp hj2 ha2 hb2 e
      subst e
      rw [hp] at ha2
      have h1 := List.all_eq_true.1 (List.all_eq_true.1 (List.all_eq_true.1 h.1 a ha2) q (List.mem_of_getElem? hj2)) a hb2
      simp at h1
    cases i with
    | zero => cases j with
      | zero => exact absurd rfl hne
      | succ j => exact cross p q j a b (by simpa using hi.symm) (by simpa using hj) ha hb
    | succ i => cases j with
      | zero => exact fun e => cross q p i b a (by simpa using hj.symm) (by simpa using hi) hb ha e.symm
      | succ j => exact b4j h.2 i j p q a b (by simpa using hi) (by simpa using hj) ha hb (fun e => hne (by rw [e]))
def memK {C : Type} : PK C -> Bool
  | .ow _ _ | .io _ _ | .im _ _ _ | .po _ _ _ _ | .so _ _ => true
  | _ => false
theorem b8x : ∀ (ps : List (PK U.C)) (k : Nat) (xs : Args U ps) (id : Nat) (p : PK U.C), ps[id - k]? = some p -> memK p = true -> k <= id -> b8q (a0o k ps xs) id
  | [], k, xs, id, p, h, _, _ => by simp at h
  | p0 :: ps, k, (x, xs), id, p, h, hp, hk => by
    have step : id ≠ k -> b8q (a0o (k + 1) ps xs) id := fun hne => by
      rw [show id - k = (id - (k + 1)) + 1 by omega] at h
      exact b8x ps (k + 1) xs id p (by simpa using h) hp (by omega)
    have go : ∀ (mc : U.MC) (sl : List (Nat × U.AV)) (nx : Nat), mc ≠ .never -> (id ≠ k -> b8q (a0o (k + 1) ps xs) id) -> St.mem ⟨sl, (k, mc) :: (a0o (k + 1) ps xs).me, nx⟩ id ≠ .never := fun mc sl nx hmc hs => by
      rw [mem_cons]
      split
      . exact hmc
      . rename_i hne; exact hs (Ne.symm hne)
    by_cases hid : id = k
    . subst hid
      simp at h
      subst h
      cases p0 <;> first
        | (cases hp; done)
        | exact go _ _ _ (fun h => by cases h) step
    . have h1 := step hid
      cases p0 <;> first
        | exact h1
        | exact go _ _ _ (fun h => by cases h) step
theorem e97 (ps : List (PK U.C)) (xs : Args U ps) (id : Nat) (h : c04 ps id) : b8q (a0o 0 ps xs) id := by
  rcases h with ⟨t, c, h⟩ | ⟨t, c, m, h⟩ | ⟨e, c, h⟩
  . exact b8x ps 0 xs id _ (by rwa [Nat.sub_zero]) rfl (Nat.zero_le _)
  . exact b8x ps 0 xs id _ (by rwa [Nat.sub_zero]) rfl (Nat.zero_le _)
  . exact b8x ps 0 xs id _ (by rwa [Nat.sub_zero]) rfl (Nat.zero_le _)
theorem d47 : ∀ (ps : List (PK U.C)) (k : Nat) (xs : Args U ps) (t : Nat), (a0o k ps xs).slot t = .unk \/ ∃ p, k <= t /\ ps[t - k]? = some p /\ c6w p = false
  | [], k, xs, t => .inl rfl
  | p0 :: ps, k, (x, xs), t => by
    have step : (a0o (k + 1) ps xs).slot t = .unk \/ ∃ p, k <= t /\ (p0 :: ps)[t - k]? = some p /\ c6w p = false := by
      rcases d47 ps (k + 1) xs t with h | ⟨p, h1, h2, h3⟩
      . exact .inl h
      . refine .inr ⟨p, by omega, ?_, h3⟩
        rw [show t - k = (t - (k + 1)) + 1 by omega]; simpa using h2
    have go : ∀ (a : U.AV) (me : List (Nat × U.MC)) (nx : Nat), c6w p0 = false -> St.slot ⟨(k, a) :: (a0o (k + 1) ps xs).sl, me, nx⟩ t = .unk \/ ∃ p, k <= t /\ (p0 :: ps)[t - k]? = some p /\ c6w p = false := fun a me nx hp => by
      rw [a1a]
      split
      . rename_i e; subst e
        exact .inr ⟨p0, Nat.le_refl _, by simp, hp⟩
      . exact step
    cases p0 <;> first
      | exact go _ _ _ rfl
      | exact step
theorem c0i {all : List (PK U.C)} : ∀ (ps : List (PK U.C)) (i : Nat), b8y all i ps = true -> ∀ t c m q, .im t c m ∈ ps -> q ∈ m -> ∃ b f e c', all[q.2]? = some (.po b f e c')
  | [], i, _, t, c, m, q, h, _ => by cases h
  | p0 :: ps, i, h, t, c, m, q, hm, hq => by
    have step : b8y all (i + 1) ps = true := by
      cases p0 <;> first
        | exact h
        | (simp only [b8y, Bool.and_eq_true] at h; exact h.2)
    rcases List.mem_cons.1 hm with e | e
    . subst e
      simp only [b8y, Bool.and_eq_true] at h
      have h1 := List.all_eq_true.1 h.1 q hq
      split at h1
      . rename_i b f e c' hx; exact ⟨b, f, e, c', hx⟩
      . cases h1
    . exact c0i ps (i + 1) step t c m q e hq
theorem d52 {ps : List (PK U.C)} (h : f4c ps = true) {t : Nat} {p : PK U.C} (hp : ps[t]? = some p) (hn : c6w p = false) : t < npK ps := by
  rcases Nat.lt_or_ge t (npK ps) with h1 | h1
  . exact h1
  . have : p ∈ ps.drop (npK ps) := by
      refine List.mem_of_getElem? (i := t - npK ps) ?_
      rw [List.getElem?_drop, show npK ps + (t - npK ps) = t by omega]; exact hp
    have := List.all_eq_true.1 h p this
    rw [hn] at this; cases this
theorem d75 (hU : UOK U) (h : Rel E Z π σ ρ w) {fz : List (Nat × U.MC)} {ps : List (PK U.C)} {us : List Value} {xs : Args U ps} {is : List (List Nat)} {ρc ρs : Nat -> Value} (hmi : b3s ps = true) (hs : ∀ t, t < npK ps -> ρs t = ρc t) (hfn : ∀ q ∈ fz, σ.mem q.1 ≠ .never)
    (hA : ∀ Z', (∀ b, Z b -> Z' b) -> (∀ b, b2i σ π fz b -> Z' b) -> ARs σ π (cz Z' w) us ps us xs is) (hap : c0v (is ++ [fz.map (·.1)]) = true) (hρ : ∀ (j : Nat) v, us[j]? = some v -> ρc j = v) :
    Rel ⟨w, fun b => ∃ i ∈ is, ∃ id ∈ i, MB (σ.mem id) (π id) b, fun b => Z b \/ b2i σ π fz b, c04 ps, ρc⟩ (fun b => Z b \/ b2i σ π fz b) ρc (a0o 0 ps xs) ρs w := by
  unfold b3s at hmi
  simp only [Bool.and_eq_true] at hmi
  have hAR := hA (fun b => Z b \/ b2i σ π fz b) (fun b h => .inl h) (fun b h => .inr h)
  have hρ' : ∀ (j : Nat) v, us[j]? = some v -> ρc (0 + j) = v := by simpa using hρ
  obtain ⟨hB, hC⟩ := f4i hU h (fun b hb => Or.inl hb) (X := cx (fun b => Z b \/ b2i σ π fz b) ρc (a0o 0 ps xs) w) rfl rfl rfl hρ ps 0 us xs is hAR hρ' (fun t c m q hm hq => by
    obtain ⟨b, f, e, c', hx⟩ := c0i ps 0 hmi.1 t c m q hm hq
    exact b8x ps 0 xs q.2 _ (by rw [Nat.sub_zero]; exact hx) rfl (Nat.zero_le _))
  refine ⟨fun t => ?_, hB, fun id b hb => ?_, fun id id' b hne hb hb' => ?_, fun b hb => ?_, fun b hb => .inl hb, fun b hb => hb, Ext.refl _ _, fun id hp => ⟨e97 ps xs id hp, rfl⟩, h.tabw hU, fun b hb => ⟨Nat.lt_of_lt_of_le (h.tab.2 b hb).1 h.ext.size, ?_⟩⟩
  . rcases d47 ps 0 xs t with h0 | ⟨p, _, h1, h2⟩
    . rw [h0]; trivial
    . rw [hs t (d52 hmi.2 (by simpa using h1) h2)]
      exact f0v hU h rfl rfl rfl ps 0 us xs is hAR hρ' (fun _ h => h) t
  . obtain ⟨j, id0, _, hj, hb0⟩ := hC id b hb
    obtain ⟨h1, h2, _⟩ := h.own id0 b hb0
    refine ⟨?_, h2, .inl ⟨_, List.mem_of_getElem? hj, id0, by simp, hb0⟩⟩
    rintro (hz | ⟨q, hq, hbq⟩)
    . exact h1 hz
    . have hne : id0 ≠ q.1 := by
        refine b4j hap j is.length [id0] (fz.map (·.1)) id0 q.1 ?_ ?_ (by simp) (List.mem_map_of_mem hq) ?_
        . rw [List.getElem?_append_left (List.getElem?_eq_some_iff.1 hj).1]; exact hj
        . simp
        . exact Nat.ne_of_lt (List.getElem?_eq_some_iff.1 hj).1
      exact h.dist id0 q.1 b hne hb0 hbq
  . obtain ⟨j, i0, e, hj, hb0⟩ := hC id b hb
    obtain ⟨j', i0', e', hj', hb0'⟩ := hC id' b hb'
    have hjj : j ≠ j' := by omega
    have hne : i0 ≠ i0' := by
      refine b4j hap j j' [i0] [i0'] i0 i0' ?_ ?_ (by simp) (by simp) hjj
      . rw [List.getElem?_append_left (List.getElem?_eq_some_iff.1 hj).1]; exact hj
      . rw [List.getElem?_append_left (List.getElem?_eq_some_iff.1 hj').1]; exact hj'
    exact h.dist i0 i0' b hne hb0 hb0'
  . rcases hb with hb | ⟨q, hq, hb⟩
    . exact h.zlt b hb
    . exact (h.own q.1 b hb).2.1
  . rintro ⟨i, _, id, _, hb'⟩
    have h1 := (h.own id b hb').2.2
    have h2 := h.tab.2 b hb
    rcases h1 with h1 | h1
    . exact h2.2 h1
    . omega
end
end Go.SX
namespace Go.SX
open Go Go.PL
section
variable {P : Program} {U : Uni}
variable {E : Env} {Z : Nat -> Prop} {π : Nat -> Value} {σ : U.St} {ρ : Nat -> Value} {w : World}
variable {m0 m : Nat} {a b v : U.AV} {ws : List (Nat × U.MC)} {fr : Nat}
theorem e2x (hU : UOK U) {X X' : Cx} {c : U.C} {x : U.T c} (hf : U.flat c = true) {u : Value} (h : a36 X (inj c x) u) : a36 X' (inj c x) u := by
  unfold inj at h ⊢
  cases ha : U.ag c with
  | true =>
    rw [ha] at h
    obtain ⟨cs, hu, hr⟩ := h
    exact ⟨cs, hu, c60 hU hf hr⟩
  | false =>
    rw [ha] at h
    have hfl := hU.flat c x hf
    cases hl : U.flds c x with
    | nil => trivial
    | cons a r => cases r with
      | cons _ _ => trivial
      | nil =>
        rw [hl] at h hfl
        simp only [List.all_cons, List.all_nil, Bool.and_true] at hfl
        have hlay := hU.lay c x
        rw [hU.sc c ha, hl] at hlay
        cases a <;> first
          | exact h
          | (cases hfl; done)
          | (simp [a0n] at hlay)
def e52 (nf : Bool) (X X' : Cx) : Prop := X'.w = X.w /\ (nf = true -> ∀ b, X.Z b -> X'.Z b)
theorem d36 (hU : UOK U) {nf : Bool} {X X' : Cx} (hL : e52 nf X X') {c : U.C} {x : U.T c} (hf : nf = false -> U.flat c = true) {u : Value} (h : a36 X (inj c x) u) : a36 X' (inj c x) u := by
  cases nf with
  | true => exact a8f (a4j hU c x).1 h hL.1 (hL.2 rfl)
  | false => exact e2x hU (hf rfl) h
theorem d1i (hU : UOK U) {nf : Bool} {X X' : Cx} (hL : e52 nf X X') {e : TypeId} {c : U.C} {l : List (U.T c)} (hf : nf = false -> U.flat c = true) {u : Value} (h : MR X (.sl e c l) u) : MR X' (.sl e c l) u := by
  obtain ⟨css, hO, hr⟩ := h
  refine ⟨css, by rw [hL.1]; exact hO, hr.mono fun r x hh => ?_⟩
  cases nf with
  | true => rw [hL.1]; exact (Rp c).weaken hh fun b _ hb hz => hb (hL.2 rfl b hz)
  | false => exact c60 hU (hf rfl) hh
theorem d43 (hU : UOK U) {nf : Bool} {X X' : Cx} (hL : e52 nf X X') {t : TypeId} {c : U.C} {x : U.T c} (hf : nf = false -> U.flat c = true) {u : Value} (h : MR X (.box t (inj c x)) u) : MR X' (.box t (inj c x)) u := by
  obtain ⟨b, u1, hv, hM, hr⟩ := h
  exact ⟨b, u1, hv, by rw [hL.1]; exact hM, d36 hU hL hf hr⟩
theorem c5d (hU : UOK U) {nf : Bool} {X X' : Cx} (hL : e52 nf X X') : ∀ (rs : List (RK U.C)) (fr : Nat) (xs : Ress U rs) (us : List Value), (nf = false -> rs.all d9i = true) -> RRs X rs xs us ->
    q9 (fun (q : Nat × U.MC) u => MR X' q.2 u /\ q.2 ≠ .never) (c58 fr rs xs).2 (c00 rs us) /\ (∀ (p : Nat) q, (c58 fr rs xs).2[p]? = some q -> q.1 = fr + p) /\
    ((∀ (p : Nat) u, (c00 rs us)[p]? = some u -> X'.us (fr + p) /\ X'.π (fr + p) = u) -> q9 (a36 X') (c58 fr rs xs).1 us)
  | [], fr, xs, [], _, _ => ⟨trivial, fun p q h => by simp [c58] at h, fun _ => trivial⟩
  | r :: rs, fr, xs, [], _, h => h.elim
  | [], fr, xs, _ :: _, _, h => h.elim
  | .v c :: rs, fr, (x, xs), u :: us, hf, h => by
    obtain ⟨h1, h2, h3⟩ := c5d hU hL rs fr xs us (fun e => by have := hf e; simp only [List.all_cons, Bool.and_eq_true] at this; exact this.2) h.2
    exact ⟨h1, h2, fun hh => ⟨d36 hU hL (fun e => by have := hf e; simp only [List.all_cons, Bool.and_eq_true] at this; exact this.1) h.1, h3 hh⟩⟩
  | .ls c :: rs, fr, (x, xs), u :: us, hf, h => by
    obtain ⟨h1, h2, h3⟩ := c5d hU hL rs fr xs us (fun e => by have := hf e; simp only [List.all_cons, Bool.and_eq_true] at this; exact this.2) h.2
    refine ⟨h1, h2, fun hh => ⟨?_, h3 hh⟩⟩
    cases nf with
    | false => have := hf rfl; simp only [List.all_cons, Bool.and_eq_true] at this; cases this.1
    | true =>
      show s7 (Rp c) X'.G X'.w u x
      rw [hL.1]
      exact s7.weaken h.1 fun b _ hb hz => hb (hL.2 rfl b hz)
  | .ow e c :: rs, fr, (x, xs), u :: us, hf, h => by
    obtain ⟨h1, h2, h3⟩ := c5d hU hL rs (fr + 1) xs us (fun e => by have := hf e; simp only [List.all_cons, Bool.and_eq_true] at this; exact this.2) h.2
    have hsl := d1i hU hL (fun e => by have := hf e; simp only [List.all_cons, Bool.and_eq_true] at this; exact this.1) h.1
    refine ⟨⟨⟨hsl, fun h => by cases h⟩, h1⟩, fun p q hq => ?_, fun hh => ⟨?_, h3 fun p u' hu' => ?_⟩⟩
    . cases p with
      | zero => have hq : some (fr, MC.sl e c x) = some q := hq; cases hq; rfl
      | succ p => have := h2 p q hq; omega
    . obtain ⟨hu, hp⟩ := hh 0 u rfl
      obtain ⟨css, hO, _⟩ := hsl
      obtain ⟨ad, cap, hv, _⟩ := hO.shape
      exact ⟨hu, hp.symm, by rw [hv]; rfl⟩
    . have := hh (p + 1) u' hu'
      rwa [show fr + (p + 1) = fr + 1 + p by omega] at this
  | .bo t c :: rs, fr, (some x, xs), u :: us, hf, h => by
    obtain ⟨h1, h2, h3⟩ := c5d hU hL rs (fr + 1) xs us (fun e => by have := hf e; simp only [List.all_cons, Bool.and_eq_true] at this; exact this.2) h.2
    have hbx := d43 hU hL (fun e => by have := hf e; simp only [List.all_cons, Bool.and_eq_true] at this; exact this.1) h.1
    refine ⟨⟨⟨hbx, fun h => by cases h⟩, h1⟩, fun p q hq => ?_, fun hh => ⟨?_, h3 fun p u' hu' => ?_⟩⟩
    . cases p with
      | zero => have hq : some (fr, MC.box t (inj c x)) = some q := hq; cases hq; rfl
      | succ p => have := h2 p q hq; omega
    . obtain ⟨hu, hp⟩ := hh 0 u rfl
      obtain ⟨bk, u1, hv, _⟩ := hbx
      exact ⟨hu, hp.symm, by rw [hv]; rfl⟩
    . have := hh (p + 1) u' hu'
      rwa [show fr + (p + 1) = fr + 1 + p by omega] at this
  | .bo t c :: rs, fr, (none, xs), u :: us, hf, h => by
    obtain ⟨h1, h2, h3⟩ := c5d hU hL rs (fr + 1) xs us (fun e => by have := hf e; simp only [List.all_cons, Bool.and_eq_true] at this; exact this.2) h.2
    refine ⟨⟨⟨trivial, fun h => by cases h⟩, h1⟩, fun p q hq => ?_, fun hh => ⟨h.1, h3 fun p u' hu' => ?_⟩⟩
    . cases p with
      | zero => have hq : some (fr, MC.dead) = some q := hq; cases hq; rfl
      | succ p => have := h2 p q hq; omega
    . have := hh (p + 1) u' hu'
      rwa [show fr + (p + 1) = fr + 1 + p by omega] at this
theorem e4h (hU : UOK U) {X X' : Cx} {a : U.AV} (hf : f4f a = true) {u : Value} (h : b4c X a u) : b4c X' a u := by
  cases a <;> first
    | (cases hf; done)
    | exact h
    | (obtain ⟨cs, hu, hr⟩ := h
       exact ⟨cs, hu, c60 hU hf hr⟩)
theorem d45 (g : Nat -> Nat) : ∀ (m : List (Nat × Nat)) (l : List U.AV) (j : Nat), (∃ k, (j, k) ∈ m /\ (j < l.length -> (b4b m l)[j]? = some (.ref k) /\ (b4b (m.map fun q => (q.1, g q.2)) l)[j]? = some (.ref (g k)))) \/ ((b4b m l)[j]? = l[j]? /\ (b4b (m.map fun q => (q.1, g q.2)) l)[j]? = l[j]?)
  | [], l, j => .inr ⟨rfl, rfl⟩
  | q :: m, l, j => by
    by_cases hq : q.1 = j
    . left
      subst hq
      exact ⟨q.2, List.mem_cons_self, fun hj => by simp [b4b, b2q, hj]⟩
    . rcases d45 g m l j with ⟨k, h1, h2⟩ | ⟨h1, h2⟩
      . left
        refine ⟨k, List.mem_cons_of_mem _ h1, fun hj => ?_⟩
        simp only [b4b, List.map_cons]
        rw [List.getElem?_set_ne hq, List.getElem?_set_ne hq]; exact h2 hj
      . right
        simp only [b4b, List.map_cons]
        rw [List.getElem?_set_ne hq, List.getElem?_set_ne hq]
        exact ⟨h1, h2⟩
theorem f09 (hU : UOK U) {nf : Bool} {X X' : Cx} (hL : e52 nf X X') {t : TypeId} {c : U.C} {x : U.T c} {m : List (Nat × Nat)} (g : Nat -> Nat) (hf : nf = false -> U.flat c = true) {u : Value} (hm : ∀ q ∈ m, X'.us (g q.2) /\ X'.π (g q.2) = X.π q.2) (h : MR X (.box t (.st c (b4b m (U.flds c x)))) u) : MR X' (.box t (.st c (b4b (m.map fun q => (q.1, g q.2)) (U.flds c x)))) u := by
  obtain ⟨b, u1, hv, hM, css, hu, hlay, hpp, hr⟩ := h
  have hkd := hU.kind c x
  have hat : ∀ (j : Nat) (a : U.AV), (b4b (m.map fun q => (q.1, g q.2)) (U.flds c x))[j]? = some a -> ∃ a0, (b4b m (U.flds c x))[j]? = some a0 /\ a0n a = a0n a0 /\ a0h a = true /\ ∀ u, b4c X a0 u -> b4c X' a u := by
    intro j a ha
    have hj : j < (U.flds c x).length := by
      have := (List.getElem?_eq_some_iff.1 ha).1
      rwa [b2q] at this
    rcases d45 g m (U.flds c x) j with ⟨k, h1, h2⟩ | ⟨h1, h2⟩
    . obtain ⟨h3, h4⟩ := h2 hj
      rw [h4] at ha
      cases ha
      refine ⟨_, h3, rfl, rfl, fun u hu => ?_⟩
      obtain ⟨k1, k2⟩ := hm _ h1
      obtain ⟨_, k4, k5⟩ := hu
      exact ⟨k1, by rw [k2]; exact k4, k5⟩
    . rw [h2] at ha
      have hka : b92 a = true := List.all_eq_true.1 hkd a (List.mem_of_getElem? ha)
      have hpa : a0h a = true := by cases a <;> first | rfl | cases hka
      refine ⟨a, by rw [h1]; exact ha, rfl, hpa, fun u hu => ?_⟩
      cases nf with
      | true => exact a36.to0 hpa (a8f hka (.of0 hu) hL.1 (hL.2 rfl))
      | false => exact e4h hU (List.all_eq_true.1 (hU.flat c x (hf rfl)) a (List.mem_of_getElem? ha)) hu
  have hlen : (b4b (m.map fun q => (q.1, g q.2)) (U.flds c x)).length = (b4b m (U.flds c x)).length := by rw [b2q, b2q]
  refine ⟨b, u1, hv, by rw [hL.1]; exact hM, css, hu, ?_, ?_, ?_⟩
  . rw [<- hlay]
    apply List.ext_getElem?
    intro j
    rw [List.getElem?_map, List.getElem?_map]
    cases ha : (b4b (m.map fun q => (q.1, g q.2)) (U.flds c x))[j]? with
    | some a =>
      obtain ⟨a0, h1, h2, _⟩ := hat j a ha
      rw [h1]; simp [h2]
    | none =>
      have : (b4b (m.map fun q => (q.1, g q.2)) (U.flds c x)).length <= j := List.getElem?_eq_none_iff.1 ha
      rw [hlen] at this
      rw [List.getElem?_eq_none this]
  . rw [List.all_eq_true]
    intro a ha
    obtain ⟨j, hj⟩ := List.getElem?_of_mem ha
    exact (hat j a hj).choose_spec.2.2.1
  . refine q9.of_get (by rw [hlen]; exact hr.length) fun j a s ha hs => ?_
    obtain ⟨a0, h1, _, _, h2⟩ := hat j a ha
    obtain ⟨s', hs', u, hu, hru⟩ := hr.get h1
    rw [hs] at hs'
    cases hs'
    exact ⟨u, hu, h2 u hru⟩
theorem e3p {m : U.MC} {v : Value} {b : Nat} (h : MB m v b) : hdV v = some b := by
  cases m <;> first | exact h | exact h.elim
theorem d8g (hU : UOK U) {nf : Bool} {X X' : Cx} (hL : e52 nf X X') {Xc : Cx} {b : Nat} {all ua : List Value} : ∀ (ps : List (PK U.C)) (k : Nat) (xs : Args U ps) (is : List (List Nat)) (os : Outs U ps) (us us' : List Value), (nf = false -> ps.all c90 = true) -> ARs σ π Xc all ps us xs is -> OR X ps os us' -> (∀ (i : Nat) (p : PK U.C), ps[i]? = some p -> c6w p = false -> us'[i]? = us[i]?) -> (∀ (i : Nat) u, us'[i]? = some u -> ua[k + i]? = some u) -> (∀ t c m q, .im t c m ∈ ps -> q ∈ m -> X'.us (b + q.2) /\ X'.π (b + q.2) = X.π q.2) ->
    q9 (fun (q : Nat × U.MC) u => MR X' q.2 u /\ q.2 ≠ .never /\ ((u = π q.1 /\ σ.mem q.1 ≠ .never) \/ ∃ j, q.1 = b + k + j /\ ua[k + j]? = some u /\ ∃ p, ps[j]? = some p /\ c6w p = true)) (b3o b k ps is os) (ioB ps us')
  | [], k, xs, [], os, [], [], _, _, _, _, _, _ => trivial
  | [], k, xs, is, os, _ :: _, us', _, h, _, _, _, _ => by cases is <;> exact h.elim
  | [], k, xs, _ :: _, os, [], us', _, h, _, _, _, _ => h.elim
  | [], k, xs, [], os, [], _ :: _, _, _, h, _, _, _ => h.elim
  | _ :: _, k, xs, is, os, [], us', _, h, _, _, _, _ => by cases is <;> exact h.elim
  | _ :: _, k, (x, xs), [], os, _ :: _, us', _, h, _, _, _, _ => h.elim
  | p :: ps, k, (x, xs), i :: is, os, u :: us, [], hf, h, hO, _, _, _ => by cases p <;> exact hO.elim
  | p :: ps, k, (x, xs), i :: is, os, u :: us, u' :: us', hf, h, hO, hsame, hua, hmu => by
    have hf' : nf = false -> c90 p = true /\ ps.all c90 = true := fun e => by have := hf e; simpa only [List.all_cons, Bool.and_eq_true] using this
    have hrec : ∀ os', OR X ps os' us' -> q9 (fun (q : Nat × U.MC) u => MR X' q.2 u /\ q.2 ≠ .never /\ ((u = π q.1 /\ σ.mem q.1 ≠ .never) \/ ∃ j, q.1 = b + k + j /\ ua[k + j]? = some u /\ ∃ p0, (p :: ps)[j]? = some p0 /\ c6w p0 = true)) (b3o b (k + 1) ps is os') (ioB ps us') := fun os' hO' => by
      have := d8g hU hL ps (k + 1) xs is os' us us' (fun e => (hf' e).2) h.2 hO' (fun i p hp hn => by have := hsame (i + 1) p (by simpa using hp) hn; simpa using this) (fun i v hv => by have := hua (i + 1) v (by simpa using hv); rwa [show k + (i + 1) = k + 1 + i by omega] at this) (fun t c m q hm hq => hmu t c m q (List.mem_cons_of_mem _ hm) hq)
      refine this.mono fun q v ⟨h1, h2, h3⟩ => ⟨h1, h2, ?_⟩
      rcases h3 with h3 | ⟨j, e1, e2, p0, e3, e4⟩
      . exact .inl h3
      . exact .inr ⟨j + 1, by omega, by rwa [show k + (j + 1) = k + 1 + j by omega], p0, by simpa using e3, e4⟩
    have same : c6w p = false -> u' = u := fun hn => by have := hsame 0 p rfl hn; simpa using this
    cases p with
    | v c => exact hrec os hO
    | ls c => exact hrec os hO
    | rp t c => exact hrec os hO
    | ow e c => exact hrec os hO
    | cl f cs => exact hrec os hO
    | io t c =>
      obtain ⟨o, os⟩ := os
      obtain ⟨id, b0, hi, hu, hmem, hp⟩ := h.1
      subst hi
      refine ⟨⟨d43 hU hL (fun e => (hf' e).1) hO.1, (fun h => by cases h), .inl ⟨by rw [same rfl]; exact hu, ?_⟩⟩, hrec os hO.2⟩
      show σ.mem id ≠ .never
      rw [hmem]; intro h; cases h
    | im t c m =>
      obtain ⟨o, os⟩ := os
      obtain ⟨id, fs, hi, hu, hmem, hp, _⟩ := h.1
      subst hi
      refine ⟨⟨f09 hU hL (b + ·) (fun e => (hf' e).1) (fun q hq => hmu t c m q List.mem_cons_self hq) hO.1, (fun h => by cases h), .inl ⟨by rw [same rfl]; exact hu, ?_⟩⟩, hrec os hO.2⟩
      show σ.mem id ≠ .never
      rw [hmem]; intro h; cases h
    | so e c =>
      obtain ⟨o, os⟩ := os
      obtain ⟨id, hi, hu, hmem⟩ := h.1
      subst hi
      refine ⟨⟨d1i hU hL (fun e => (hf' e).1) hO.1, (fun h => by cases h), .inl ⟨by rw [same rfl]; exact hu, ?_⟩⟩, hrec os hO.2⟩
      show σ.mem id ≠ .never
      rw [hmem]; intro h; cases h
    | po b0 f e c =>
      obtain ⟨o, os⟩ := os
      exact ⟨⟨d1i hU hL (fun e => (hf' e).1) hO.1, (fun h => by cases h), .inr ⟨0, by simp, hua 0 u' rfl, _, rfl, rfl⟩⟩, hrec os hO.2⟩
theorem a9z {Xc : Cx} {b : Nat} {all : List Value} : ∀ (ps : List (PK U.C)) (k : Nat) (xs : Args U ps) (is : List (List Nat)) (os : Outs U ps) (us : List Value), ARs σ π Xc all ps us xs is -> ∀ i ∈ is, ∀ id ∈ i, (∃ m, (id, m) ∈ b3o b k ps is os) \/ id ∈ d1f ps is
  | [], k, xs, [], os, [], _, i, hi, _, _ => by cases hi
  | [], k, xs, _ :: _, os, [], h, _, _, _, _ => h.elim
  | [], k, xs, is, os, _ :: _, h, _, _, _, _ => by cases is <;> exact h.elim
  | _ :: _, k, xs, is, os, [], h, _, _, _, _ => by cases is <;> exact h.elim
  | _ :: _, k, (x, xs), [], os, _ :: _, h, _, _, _, _ => h.elim
  | p :: ps, k, (x, xs), i0 :: is, os, u :: us, h, i, hi, id, hid => by
    rcases List.mem_cons.1 hi with e | hi
    . subst e
      cases p with
      | v c => rw [h.1.1] at hid; cases hid
      | ls c => rw [h.1.1] at hid; cases hid
      | rp t c => rw [h.1.1] at hid; cases hid
      | cl f cs => rw [h.1.1] at hid; cases hid
      | ow e c => exact .inr (List.mem_append_left _ hid)
      | po b0 f e c => exact .inr (List.mem_append_left _ hid)
      | io t c => obtain ⟨o, os⟩ := os; exact .inl ⟨_, List.mem_append_left _ (List.mem_map_of_mem hid)⟩
      | so e c => obtain ⟨o, os⟩ := os; exact .inl ⟨_, List.mem_append_left _ (List.mem_map_of_mem hid)⟩
      | im t c m => obtain ⟨o, os⟩ := os; exact .inl ⟨_, List.mem_append_left _ (List.mem_map_of_mem hid)⟩
    . cases p with
      | v c => exact a9z ps (k + 1) xs is os us h.2 i hi id hid
      | ls c => exact a9z ps (k + 1) xs is os us h.2 i hi id hid
      | rp t c => exact a9z ps (k + 1) xs is os us h.2 i hi id hid
      | cl f cs => exact a9z ps (k + 1) xs is os us h.2 i hi id hid
      | ow e c => exact (a9z ps (k + 1) xs is os us h.2 i hi id hid).imp_right fun h1 => List.mem_append_right _ h1
      | po b0 f e c =>
        obtain ⟨o, os⟩ := os
        rcases a9z ps (k + 1) xs is os us h.2 i hi id hid with ⟨m, h1⟩ | h1
        . exact .inl ⟨m, List.mem_cons_of_mem _ h1⟩
        . exact .inr (List.mem_append_right _ h1)
      | io t c =>
        obtain ⟨o, os⟩ := os
        rcases a9z ps (k + 1) xs is os us h.2 i hi id hid with ⟨m, h1⟩ | h1
        . exact .inl ⟨m, List.mem_append_right _ h1⟩
        . exact .inr h1
      | so e c =>
        obtain ⟨o, os⟩ := os
        rcases a9z ps (k + 1) xs is os us h.2 i hi id hid with ⟨m, h1⟩ | h1
        . exact .inl ⟨m, List.mem_append_right _ h1⟩
        . exact .inr h1
      | im t c m =>
        obtain ⟨o, os⟩ := os
        rcases a9z ps (k + 1) xs is os us h.2 i hi id hid with ⟨m, h1⟩ | h1
        . exact .inl ⟨m, List.mem_append_right _ h1⟩
        . exact .inr h1
theorem e2s {X : Cx} {vs : List U.AV} {us : List Value} (h : q9 (a36 X) vs us) : AVR X (f5r vs) (f0o us) := by
  match vs, us, h with
  | [], [], h => exact ⟨[], rfl, trivial⟩
  | [a], [u], h => exact AVR.of1 h.1
  | a :: a' :: vs, u :: u' :: us, h => exact ⟨_, rfl, h⟩
  | [], _ :: _, h => exact h.elim
  | _ :: _, [], h => exact h.elim
  | [a], u :: u' :: us, h => exact h.2.elim
  | a :: a' :: vs, [u], h => exact h.2.elim
end
end Go.SX
namespace Go.SX
open Go Go.PL
section
variable {P : Program} {U : Uni}
variable {E : Env} {Z : Nat -> Prop} {π : Nat -> Value} {σ : U.St} {ρ : Nat -> Value} {w : World}
variable {m0 m : Nat} {a b v : U.AV} {ws : List (Nat × U.MC)} {fr : Nat}
theorem a8v {α : Type} {t : Nat} {l r : List (Nat × α)} {a : α} (h : (t, a) ∈ l \/ (t, a) ∈ r) : ∃ m, lk t (l ++ r) = some m := by
  have key : ∀ {l : List (Nat × α)} {a : α}, (t, a) ∈ l -> ∃ m, lk t l = some m := by
    intro l
    induction l with
    | nil => intro a h; cases h
    | cons q l ih =>
      intro a h
      show ∃ m, (bif Nat.beq q.1 t then some q.2 else lk t l) = some m
      cases hk : Nat.beq q.1 t with
      | true => exact ⟨_, rfl⟩
      | false =>
        rcases List.mem_cons.1 h with e | e
        . rw [<- e] at hk; exact absurd rfl (Nat.ne_of_beq_eq_false hk)
        . exact ih e
  exact key (List.mem_append.2 h)
theorem d2i : ∀ (rs : List (RK U.C)) (us : List Value), (c00 rs us).length <= rs.length
  | [], us => by cases us <;> simp [c00]
  | r :: rs, [] => by cases r <;> simp [c00]
  | r :: rs, u :: us => by
    have := d2i rs us
    cases r <;> simp [c00] <;> omega
theorem b3h {b : Nat} : ∀ (ps : List (PK U.C)) (k : Nat) (is : List (List Nat)) (os : Outs U ps), ∀ q ∈ b3o b k ps is os, q.2 ≠ .never
  | [], k, is, os, q, h => by cases is <;> cases h
  | p :: ps, k, [], os, q, h => by cases p <;> cases h
  | p :: ps, k, i :: is, os, q, h => by
    cases p with
    | v c => exact b3h ps (k + 1) is os q h
    | ls c => exact b3h ps (k + 1) is os q h
    | rp t c => exact b3h ps (k + 1) is os q h
    | ow e c => exact b3h ps (k + 1) is os q h
    | cl f cs => exact b3h ps (k + 1) is os q h
    | io t c =>
      obtain ⟨o, os⟩ := os
      rcases List.mem_append.1 h with h | h
      . obtain ⟨id, _, e⟩ := List.mem_map.1 h
        rw [<- e]; intro h; cases h
      . exact b3h ps (k + 1) is os q h
    | so e c =>
      obtain ⟨o, os⟩ := os
      rcases List.mem_append.1 h with h | h
      . obtain ⟨id, _, e⟩ := List.mem_map.1 h
        rw [<- e]; intro h; cases h
      . exact b3h ps (k + 1) is os q h
    | im t c m =>
      obtain ⟨o, os⟩ := os
      rcases List.mem_append.1 h with h | h
      . obtain ⟨id, _, e⟩ := List.mem_map.1 h
        rw [<- e]; intro h; cases h
      . exact b3h ps (k + 1) is os q h
    | po b0 f e c =>
      obtain ⟨o, os⟩ := os
      rcases List.mem_cons.1 h with h | h
      . rw [h]; intro h; cases h
      . exact b3h ps (k + 1) is os q h
theorem e10 {b : Nat} {Xc : Cx} {all : List Value} : ∀ (ps : List (PK U.C)) (k : Nat) (us : List Value) (xs : Args U ps) (is : List (List Nat)) (os : Outs U ps), ARs σ π Xc all ps us xs is -> ∀ (j : Nat) (p : PK U.C), ps[j]? = some p -> c6w p = true -> ∃ m, (b + k + j, m) ∈ b3o b k ps is os
  | [], k, us, xs, is, os, _, j, p, h, _ => by simp at h
  | _ :: _, k, [], xs, is, os, h, _, _, _, _ => by cases is <;> exact h.elim
  | _ :: _, k, _ :: _, (x, xs), [], os, h, _, _, _, _ => h.elim
  | p0 :: ps, k, u :: us, (x, xs), i :: is, os, h, j, p, hp, hn => by
    have go : ∀ os', 0 < j -> ∃ m, (b + k + j, m) ∈ b3o b (k + 1) ps is os' := fun os' hj => by
      obtain ⟨m, hm⟩ := e10 ps (k + 1) us xs is os' h.2 (j - 1) p (by rw [show j = (j - 1) + 1 by omega] at hp; simpa using hp) hn
      exact ⟨m, by rwa [show b + (k + 1) + (j - 1) = b + k + j by omega] at hm⟩
    have pos : c6w p0 = false -> 0 < j := fun hn0 => by
      rcases Nat.eq_zero_or_pos j with e | e
      . subst e; simp at hp; subst hp; rw [hn] at hn0; cases hn0
      . exact e
    cases p0 with
    | v c => exact go os (pos rfl)
    | ls c => exact go os (pos rfl)
    | rp t c => exact go os (pos rfl)
    | ow e c => exact go os (pos rfl)
    | cl f cs => exact go os (pos rfl)
    | io t c => obtain ⟨o, os⟩ := os; obtain ⟨m, hm⟩ := go os (pos rfl); exact ⟨m, List.mem_append_right _ hm⟩
    | so e c => obtain ⟨o, os⟩ := os; obtain ⟨m, hm⟩ := go os (pos rfl); exact ⟨m, List.mem_append_right _ hm⟩
    | im t c m0 => obtain ⟨o, os⟩ := os; obtain ⟨m, hm⟩ := go os (pos rfl); exact ⟨m, List.mem_append_right _ hm⟩
    | po b0 f e c =>
      obtain ⟨o, os⟩ := os
      rcases Nat.eq_zero_or_pos j with e | e
      . subst e; exact ⟨_, List.mem_cons_self⟩
      . obtain ⟨m, hm⟩ := go os e; exact ⟨m, List.mem_cons_of_mem _ hm⟩
theorem e1s {fr n j : Nat} {ps : List (PK U.C)} {p : PK U.C} (hp : ps[j]? = some p) (hn : c6w p = true) : fr + n + j ∈ f5d fr n ps := by
  unfold f5d
  rw [List.mem_filterMap]
  refine ⟨j, List.mem_range.2 (List.getElem?_eq_some_iff.1 hp).1, ?_⟩
  rw [hp]
  simp [hn]
theorem d04 (hU : UOK U) (h : Rel E Z π σ ρ w) {s : Sig U} {fz : List (Nat × U.MC)} {us : List Value} {xs : Args U s.ps} {is : List (List Nat)} {r : Ress U s.rs × Outs U s.ps} {u : Value} {w' : World} {d : Option Tmp}
    (hfz : s.nf = true -> FZ σ fz) (hfn : ∀ q ∈ fz, σ.mem q.1 ≠ .never) (hin : ∀ i ∈ is, ∀ id ∈ i, σ.mem id ≠ .never) (hA : ∀ Z', (∀ b, Z b -> Z' b) -> (∀ b, b2i σ π fz b -> Z' b) -> ARs σ π (cz Z' w) us s.ps us xs is) (hap : c0v (is ++ [fz.map (·.1)]) = true) (hmi : b3s s.ps = true)
    (hnev : ∀ i ∈ (c58 fr s.rs r.1).2.map (·.1), σ.mem i = .never) (hnev2 : ∀ i ∈ f5d fr s.rs.length s.ps, σ.mem i = .never)
    (hP : Post s (fun b => Z b \/ b2i σ π fz b) (fun b => ∃ i ∈ is, ∃ id ∈ i, MB (σ.mem id) (π id) b) w us r u w') :
    ∃ Z' π', Rel E Z' π' (σ.app d (f5r (c58 fr s.rs r.1).1) ((c58 fr s.rs r.1).2 ++ (b3o (fr + s.rs.length) 0 s.ps is r.2 ++ (((d1f s.ps is).map fun id => (id, .dead)) ++ match s.nf with | true => fz | false => [])))) (c8p ρ d u) w' := by
  obtain ⟨Z1, us1, ua, hu, hz1, hz2, hE, hlu, hsame, hRR, hOR, hown, hdist⟩ := hP
  subst hu
  unfold b3s at hmi
  simp only [Bool.and_eq_true] at hmi
  have hARs := hA (fun b => Z b \/ b2i σ π fz b) (fun b h => .inl h) (fun b h => .inr h)
  obtain ⟨bb, hbb⟩ : ∃ bb : Nat, bb = fr + s.rs.length := ⟨_, rfl⟩
  rw [<- hbb]
  obtain ⟨ws, hws⟩ : ∃ ws : List (Nat × U.MC), ws = (c58 fr s.rs r.1).2 ++ (b3o bb 0 s.ps is r.2 ++ (((d1f s.ps is).map fun id => (id, .dead)) ++ match s.nf with | true => fz | false => [])) := ⟨_, rfl⟩
  rw [<- hws]
  obtain ⟨Z2, hZ2⟩ : ∃ Z2 : Nat -> Prop, Z2 = (match s.nf with | true => Z1 | false => Z) := ⟨_, rfl⟩
  obtain ⟨isp, hisp⟩ : ∃ isp : Nat -> Bool, isp = fun k => (match s.ps[k]? with | some p => c6w p | none => false) := ⟨_, rfl⟩
  obtain ⟨π2, hπ2⟩ : ∃ π2 : Nat -> Value, π2 = fun id => if fr <= id /\ id - fr < (c00 s.rs us1).length then (c00 s.rs us1).getD (id - fr) undef else if bb <= id /\ isp (id - bb) = true then ua.getD (id - bb) undef else π id := ⟨_, rfl⟩
  have hZ2le : ∀ b, Z2 b -> Z1 b := by
    intro b hb
    rw [hZ2] at hb
    cases hnf : s.nf <;> rw [hnf] at hb
    . exact hz1 b (.inl hb)
    . exact hb
  have hZle : ∀ b, Z b -> Z2 b := by
    intro b hb
    rw [hZ2]
    cases hnf : s.nf
    . exact hb
    . exact hz1 b (.inl hb)
  obtain ⟨X2, hX2⟩ : ∃ X2 : Cx, X2 = cx Z2 π2 (σ.app d (f5r (c58 fr s.rs r.1).1) ws) w' := ⟨_, rfl⟩
  have hL : e52 s.nf (cz Z1 w') X2 := by
    rw [hX2]
    refine ⟨rfl, fun hnf b hb => ?_⟩
    show Z2 b
    rw [hZ2, hnf]; exact hb
  have hL' : e52 s.nf (czO Z1 s.ps ua w') X2 := hL
  have hnfr : s.nf = false -> s.rs.all d9i = true := fun e => by
    unfold Sig.nf at e
    simp only [Bool.not_eq_eq_eq_not, Bool.not_false, Bool.and_eq_true] at e; exact e.1
  have hnfp : s.nf = false -> s.ps.all c90 = true := fun e => by
    unfold Sig.nf at e
    simp only [Bool.not_eq_eq_eq_not, Bool.not_false, Bool.and_eq_true] at e; exact e.2
  obtain ⟨hm1, hm2, hm3⟩ := c5d hU hL s.rs fr r.1 us1 hnfr hRR
  have hlenms : (c58 fr s.rs r.1).2.length = (c00 s.rs us1).length := q9.length hm1
  have hrl := d2i s.rs us1
  have hfresh : ∀ p, p < (c00 s.rs us1).length -> σ.mem (fr + p) = .never := by
    intro p hp
    have hp' : p < (c58 fr s.rs r.1).2.length := by rw [hlenms]; exact hp
    have h1 := hm2 p _ (List.getElem?_eq_getElem hp')
    have := hnev ((c58 fr s.rs r.1).2[p]).1 (List.mem_map_of_mem (List.getElem_mem hp'))
    rw [h1] at this; exact this
  have hfresh2 : ∀ k, isp k = true -> σ.mem (bb + k) = .never := by
    intro k hk
    rw [hisp] at hk
    dsimp only at hk
    split at hk
    . rename_i p hp
      rw [hbb]
      exact hnev2 _ (e1s hp hk)
    . cases hk
  have hπu : ∀ id, σ.mem id ≠ .never -> π2 id = π id := by
    intro id hid
    rw [hπ2]
    show (if _ then _ else if _ then _ else _) = _
    rw [if_neg, if_neg]
    . rintro ⟨h1, h2⟩
      apply hid
      have := hfresh2 (id - bb) h2
      rwa [show bb + (id - bb) = id by omega] at this
    . rintro ⟨h1, h2⟩
      apply hid
      have := hfresh (id - fr) h2
      rwa [show fr + (id - fr) = id by omega] at this
  have hπn : ∀ (p : Nat) (u : Value), (c00 s.rs us1)[p]? = some u -> π2 (fr + p) = u := by
    intro p u hu
    have hp : p < (c00 s.rs us1).length := (List.getElem?_eq_some_iff.1 hu).1
    rw [hπ2]
    show (if _ then _ else _) = _
    rw [if_pos ⟨by omega, by omega⟩, show fr + p - fr = p by omega]
    simp [hu]
  have hπo : ∀ k, isp k = true -> π2 (bb + k) = ua.getD k undef := by
    intro k hk
    rw [hπ2]
    show (if _ then _ else if _ then _ else _) = _
    rw [if_neg (by omega), if_pos ⟨by omega, by rw [show bb + k - bb = k by omega]; exact hk⟩, show bb + k - bb = k by omega]
  have hwsnn : ∀ q ∈ ws, q.2 ≠ .never := by
    intro q hq
    rw [hws] at hq
    rcases List.mem_append.1 hq with hm | hm
    . obtain ⟨p, hp⟩ := List.getElem?_of_mem hm
      obtain ⟨u, hu, hu2, hu3⟩ := hm1.get hp
      exact hu3
    . rcases List.mem_append.1 hm with hm | hm
      . exact b3h _ _ _ _ q hm
      . rcases List.mem_append.1 hm with hm | hm
        . obtain ⟨i, hi, he⟩ := List.mem_map.1 hm
          rw [<- he]; intro h; cases h
        . cases hnf : s.nf with
          | true =>
            rw [hnf] at hm
            obtain ⟨e, c, l, _, e2⟩ := hfz hnf q.1 q.2 hm
            rw [e2]; intro h; cases h
          | false => rw [hnf] at hm; cases hm
  have hmu : ∀ t c m q, .im t c m ∈ s.ps -> q ∈ m -> X2.us (bb + q.2) /\ X2.π (bb + q.2) = (czO Z1 s.ps ua w').π q.2 := by
    intro t c m q hm hq
    obtain ⟨b, f, e, c', hx⟩ := c0i s.ps 0 hmi.1 t c m q hm hq
    have hk : isp q.2 = true := by rw [hisp]; dsimp only; rw [hx]; rfl
    rw [hX2]
    refine ⟨?_, hπo q.2 hk⟩
    show (σ.app d _ ws).mem (bb + q.2) ≠ .never
    rw [a2e]
    obtain ⟨m', hm'⟩ := e10 (b := bb) (σ := σ) (π := π) s.ps 0 us xs is r.2 hARs q.2 _ hx rfl
    have : ∃ mc, lk (bb + q.2) ws = some mc := by
      rw [hws]
      exact a8v (a := m') (.inr (List.mem_append_left _ (by simpa using hm')))
    obtain ⟨mc, hl⟩ := this
    rw [hl]
    exact hwsnn _ (a98 hl)
  have ho1 := d8g hU hL' (b := bb) (ua := ua) s.ps 0 xs is r.2 us ua hnfp hARs hOR hsame (fun i u hu => by simpa using hu) hmu
  have hcls : ∀ id mc, lk id ws = some mc -> (∃ (p : Nat) (u : Value), (c00 s.rs us1)[p]? = some u /\ id = fr + p /\ MR X2 mc u /\ π2 id = u) \/ (∃ (p : Nat) (u : Value), (ioB s.ps ua)[p]? = some u /\ (b3o bb 0 s.ps is r.2)[p]? = some (id, mc) /\ MR X2 mc u /\ π2 id = u) \/ mc = .dead \/ (s.nf = true /\ (id, mc) ∈ fz) := by
    intro id mc hl
    have hmem := a98 hl
    rw [hws] at hmem
    rcases List.mem_append.1 hmem with hm | hm
    . obtain ⟨p, hp⟩ := List.getElem?_of_mem hm
      obtain ⟨u, hu, hu2, hu3⟩ := hm1.get hp
      have e := hm2 p _ hp
      exact .inl ⟨p, u, hu, e, hu2, by rw [show id = fr + p from e]; exact hπn p u hu⟩
    . rcases List.mem_append.1 hm with hm | hm
      . obtain ⟨p, hp⟩ := List.getElem?_of_mem hm
        obtain ⟨u, hu, h1, h2, h3⟩ := ho1.get hp
        refine .inr (.inl ⟨p, u, hu, hp, h1, ?_⟩)
        rcases h3 with ⟨e1, e2⟩ | ⟨j, e1, e2, p0, e3, e4⟩
        . rw [hπu id e2]; exact e1.symm
        . have e1 : id = bb + j := by simpa using e1
          rw [e1, hπo j (by rw [hisp]; dsimp only; rw [e3]; exact e4)]
          have e2 : ua[j]? = some u := by simpa using e2
          simp [e2]
      . rcases List.mem_append.1 hm with hm | hm
        . obtain ⟨i, hi, he⟩ := List.mem_map.1 hm
          cases he
          exact .inr (.inr (.inl rfl))
        . cases hnf : s.nf with
          | true => rw [hnf] at hm; exact .inr (.inr (.inr ⟨rfl, hm⟩))
          | false => rw [hnf] at hm; cases hm
  have hisw : ∀ i ∈ is, ∀ id ∈ i, ∃ mc, lk id ws = some mc := by
    intro i hi id hid
    rw [hws]
    rcases a9z (b := bb) s.ps 0 xs is r.2 us hARs i hi id hid with ⟨mc, h1⟩ | h1
    . exact a8v (a := mc) (.inr (List.mem_append_left _ h1))
    . exact a8v (a := .dead) (.inr (List.mem_append_right _ (List.mem_append_left _ (List.mem_map.2 ⟨id, h1, rfl⟩))))
  have hown2 : ∀ v ∈ c00 s.rs us1 ++ ioB s.ps ua, ∀ b, hdV v = some b -> ¬ Z2 b /\ b < w'.heap.size /\ (w.heap.size <= b \/ ∃ id0 m0, lk id0 ws = some m0 /\ MB (σ.mem id0) (π id0) b) := by
    intro v hv b hb
    obtain ⟨h1, h2, h3⟩ := hown v hv b hb
    refine ⟨fun hz => h1 (hZ2le b hz), h2, ?_⟩
    rcases h3 with ⟨i, hi, id, hid, hb'⟩ | h3
    . obtain ⟨mc, hl⟩ := hisw i hi id hid
      exact .inr ⟨id, mc, hl, hb'⟩
    . exact .inl h3
  have hGZ : ∀ b, (∃ i ∈ is, ∃ id ∈ i, MB (σ.mem id) (π id) b) -> ¬ (Z b \/ b2i σ π fz b) := by
    rintro b ⟨i, hi, id, hid, hb⟩ (hz | ⟨q, hq, hbq⟩)
    . exact (h.own id b hb).1 hz
    . obtain ⟨j, hj⟩ := List.getElem?_of_mem hi
      have hne : id ≠ q.1 := by
        refine b4j hap j is.length i (fz.map (·.1)) id q.1 ?_ ?_ hid (List.mem_map_of_mem hq) ?_
        . rw [List.getElem?_append_left (List.getElem?_eq_some_iff.1 hj).1]; exact hj
        . simp
        . exact Nat.ne_of_lt (List.getElem?_eq_some_iff.1 hj).1
      exact h.dist id q.1 b hne hb hbq
  refine ⟨Z2, π2, ?_⟩
  refine h.next (hE.mono fun b ⟨i, hi, id, hid, hb⟩ => ?_) hZle (fun b hb => ?_) (fun id hu => hπu id hu) (fun id mc hl => ?_) (fun id mc hl => ?_) (fun id mc b hl hb => ?_) (fun id id' mc mc' b hne hl hl' hb hb' => ?_) ?_
  . obtain ⟨mc, hl⟩ := hisw i hi id hid
    exact ⟨id, mc, hl, hb⟩
  . rw [hZ2] at hb
    cases hnf : s.nf with
    | false => rw [hnf] at hb; exact .inl hb
    | true =>
      rw [hnf] at hb
      rcases hz2 b hb with (hz | ⟨q, hq, hbq⟩) | ⟨i, hi, id, hid, hb'⟩ | hz
      . exact .inl hz
      . refine .inr (.inr ?_)
        have : ∃ mc, lk q.1 ws = some mc := by
          rw [hws, hnf]
          exact a8v (a := q.2) (.inr (List.mem_append_right _ (List.mem_append_right _ hq)))
        obtain ⟨mc, hl⟩ := this
        exact ⟨q.1, mc, hl, hbq⟩
      . obtain ⟨mc, hl⟩ := hisw i hi id hid
        exact .inr (.inr ⟨id, mc, hl, hb'⟩)
      . exact .inr (.inl hz)
  . exact hwsnn _ (a98 hl)
  . rw [<- hX2]
    rcases hcls id mc hl with ⟨p, u, hp, he, hmr, hpu⟩ | ⟨p, u, hp, _, hmr, hpu⟩ | rfl | ⟨hnf, hq⟩
    . rw [hpu]; exact hmr
    . rw [hpu]; exact hmr
    . trivial
    . obtain ⟨e, c, l, hmem, rfl⟩ := hfz hnf _ _ hq
      rw [hπu id (by rw [hmem]; intro h; cases h)]
      have hm := h.mem id
      rw [hmem] at hm
      have h1 := c3u (X := cx Z π σ w) (Z' := fun b => Z b \/ b2i σ π fz b) hm (fun b h => .inl h) fun b hb => .inr ⟨_, hq, by
        show MB (σ.mem id) (π id) b
        rw [hmem]
        obtain ⟨css, hO, _⟩ := hm
        obtain ⟨ad, cap, hv, _⟩ := hO.shape
        exact (b5z hv).1 hb⟩
      have h2 := s7.ext h1 (hE.mono (fun b hb => hGZ b hb))
      rw [hX2]
      refine s7.weaken h2 fun b _ hn hz => hn ?_
      show Z2 b
      rw [hZ2, hnf]; exact hz1 b hz
  . rcases hcls id mc hl with ⟨p, u, hp, he, hmr, hpu⟩ | ⟨p, u, hp, _, hmr, hpu⟩ | rfl | ⟨hnf, hq⟩
    . rw [hpu] at hb
      exact hown2 u (List.mem_append_left _ (List.mem_of_getElem? hp)) b (e3p hb)
    . rw [hpu] at hb
      exact hown2 u (List.mem_append_right _ (List.mem_of_getElem? hp)) b (e3p hb)
    . exact hb.elim
    . obtain ⟨e, c, l, _, rfl⟩ := hfz hnf _ _ hq
      exact hb.elim
  . have pos : ∀ id mc, lk id ws = some mc -> MB mc (π2 id) b -> ∃ (k : Nat) (u : Value), (c00 s.rs us1 ++ ioB s.ps ua)[k]? = some u /\ hdV u = some b /\ ((k < (c00 s.rs us1).length /\ id = fr + k) \/ ((c00 s.rs us1).length <= k /\ ∃ mc', (b3o bb 0 s.ps is r.2)[k - (c00 s.rs us1).length]? = some (id, mc'))) := by
      intro id mc hl hb
      rcases hcls id mc hl with ⟨p, u, hp, he, hmr, hpu⟩ | ⟨p, u, hp, hpo, hmr, hpu⟩ | rfl | ⟨hnf, hq⟩
      . rw [hpu] at hb
        have hlt := (List.getElem?_eq_some_iff.1 hp).1
        exact ⟨p, u, by rw [List.getElem?_append_left hlt]; exact hp, e3p hb, .inl ⟨hlt, he⟩⟩
      . rw [hpu] at hb
        exact ⟨(c00 s.rs us1).length + p, u, by rw [List.getElem?_append_right (by omega)]; simpa using hp, e3p hb, .inr ⟨by omega, mc, by simpa using hpo⟩⟩
      . exact hb.elim
      . obtain ⟨e, c, l, _, rfl⟩ := hfz hnf _ _ hq
        exact hb.elim
    obtain ⟨k, u, hk, hku, hkc⟩ := pos id mc hl hb
    obtain ⟨k', u', hk', hku', hkc'⟩ := pos id' mc' hl' hb'
    have hkk : k ≠ k' := by
      intro e
      subst e
      rcases hkc with ⟨h1, h2⟩ | ⟨h1, mc1, h2⟩ <;> rcases hkc' with ⟨h3, h4⟩ | ⟨h3, mc2, h4⟩
      . exact hne (h2.trans h4.symm)
      . omega
      . omega
      . rw [h2] at h4; cases h4; exact hne rfl
    exact hdist k k' u u' b hkk hk hk' hku hku'
  . rw [<- hX2]
    refine e2s (hm3 fun p u hp => ⟨?_, ?_⟩)
    . rw [hX2]
      show (σ.app d _ ws).mem (fr + p) ≠ .never
      rw [a2e]
      have hp' : p < (c58 fr s.rs r.1).2.length := by rw [hlenms]; exact (List.getElem?_eq_some_iff.1 hp).1
      have h1 := hm2 p _ (List.getElem?_eq_getElem hp')
      have : ∃ mc, lk (fr + p) ws = some mc := by
        rw [hws, <- h1]
        exact a8v (a := ((c58 fr s.rs r.1).2[p]).2) (.inl (List.getElem_mem hp'))
      obtain ⟨mc, hl⟩ := this
      rw [hl]
      exact hwsnn _ (a98 hl)
    . rw [hX2]; exact hπn p u hp
theorem d9k {X : Cx} {all : List Value} : ∀ {ps : List (PK U.C)} {us : List Value} {xs : Args U ps} {is : List (List Nat)}, ARs σ π X all ps us xs is -> us.length = ps.length
  | [], [], _, [], _ => rfl
  | _ :: _, _ :: _, (_, _), _ :: _, h => by simp [d9k h.2]
  | [], [], _, _ :: _, h => h.elim
  | [], _ :: _, _, is, h => by cases is <;> exact h.elim
  | _ :: _, [], _, is, h => by cases is <;> exact h.elim
  | _ :: _, _ :: _, (_, _), [], h => h.elim
theorem c0o : ∀ (rs : List (RK U.C)) (x : Ress U rs) (k : Ress U rs -> U.Q), (f0b rs x k).Ev σ m0 m v ws -> (k x).Ev σ m0 m v ws
  | [], _, k, h => h
  | .v c :: rs, (x, xs), k, h => c0o rs xs _ h
  | .ls c :: rs, (x, xs), k, h => c0o rs xs _ h
  | .ow e c :: rs, (x, xs), k, h => c0o rs xs _ h
  | .bo t c :: rs, (x, xs), k, h => by
    rcases h with ⟨e, h⟩ | ⟨y, e, h⟩
    . subst e; exact c0o rs xs _ h
    . subst e; exact c0o rs xs _ h
theorem e02 (hU : UOK U) {Φ : Phi U} (hΦ : ∀ f as fe, Φ f as = some fe -> e3h P f fe) (h : Rel E Z π σ ρ w) {d : Option Tmp} {ty : TypeId} {ps : String} {af : Array Edge} {g : Option (Nat × Bool)} {x : Operand} {args : Array Operand} {tys : Array TypeId} {f : FuncId} {as cs : List U.AV} {vs : List Value}
    (hx : ev ρ x = .func (.func f) #[] vs.toArray) (hcs : q9 (a36 (cx Z π σ w)) cs vs) (has : q9 (AVR (cx Z π σ w)) as (args.toList.map (ev ρ))) (hev : (f05 Φ fr f (as ++ cs)).Ev σ m0 m v ws) :
    a78 P E σ ρ w ⟨d, .call ⟨.value x, args, tys⟩, ty, ps, af, g⟩ v ws := by
  unfold f05 at hev
  split at hev
  case h_2 => exact hev.elim
  rename_i fe hfe
  have hkn := hΦ f _ fe hfe
  split at hev
  case h_2 => exact hev.elim
  rename_i hck
  simp only [Bool.and_eq_true] at hck
  have hall0 : q9 (AVR (cx Z π σ w)) (as ++ cs) (args.toList.map (ev ρ) ++ vs) := a7v has (hcs.mono fun _ _ hh => AVR.of1 hh)
  have hlen0 : (args.toList.map (ev ρ) ++ vs).length = npK fe.s.ps := by rw [<- q9.length hall0]; exact Nat.eq_of_beq_eq_true hck.2
  obtain ⟨ex, exv, m9, hex, hev⟩ := f2p h hev
  have hall : q9 (AVR (cx Z π σ w)) (as ++ cs ++ ex) (args.toList.map (ev ρ) ++ vs ++ exv) := a7v hall0 hex
  obtain ⟨xs, is, fz, m1, hev, h1, h2, h3, h4⟩ := e1f hU h hall hall hev
  split at hev
  case h_2 => exact hev.elim
  rename_i hap
  obtain ⟨bb, hr, hev⟩ := hev
  have hev := c0o _ _ _ hev
  dsimp only at hev
  obtain ⟨hnev, m2, hev⟩ := c6c hev
  obtain ⟨hnev2, m3, hm1, hv0, hws⟩ := c6c hev
  subst hv0
  rw [hws]
  have e : (args.map (ev ρ) ++ vs.toArray) = (args.toList.map (ev ρ) ++ vs).toArray := by apply Array.ext'; simp
  have htk : (args.toList.map (ev ρ) ++ vs ++ exv).take (npK fe.s.ps) = args.toList.map (ev ρ) ++ vs := by rw [<- hlen0, List.take_left]
  have hρ : ∀ (j : Nat) u, (args.toList.map (ev ρ) ++ vs ++ exv)[j]? = some u -> c4k (args.toList.map (ev ρ) ++ vs ++ exv) j = u := by
    intro j u hu; simp only [c4k, List.getD_eq_getElem?_getD, hu, Option.getD_some]
  have hs : ∀ t, t < npK fe.s.ps -> c4k ((args.toList.map (ev ρ) ++ vs ++ exv).take (npK fe.s.ps)) t = c4k (args.toList.map (ev ρ) ++ vs ++ exv) t := by
    intro t ht
    simp only [c4k, List.getD_eq_getElem?_getD, List.getElem?_take_of_lt ht]
  have hlen : (args.toList.map (ev ρ) ++ vs ++ exv).length = fe.s.ps.length := by
    have hA := h4 (fun b => Z b \/ b2i σ π fz b) (fun b h => .inl h) (fun b h => .inr h)
    exact d9k hA
  have hpar := d75 hU h hck.1 hs h2 h4 hap hρ
  unfold a78 a6r
  rcases hkn with ⟨hspec, hcall⟩ | hspec
  . have hrun : (execOp (ev ρ) ⟨d, .call ⟨.value x, args, tys⟩, ty, ps, af, g⟩).run P w = .ok (.enter f (args.toList.map (ev ρ) ++ vs).toArray) w := by
      have hc := hcall (args.map (ev ρ) ++ vs.toArray) w
      rw [e] at hc
      simp only [execOp, resolve, Deferred.ofValue, hx, Sem.run_bind]
      simp [invoke, hc, e]
    rw [hrun]
    have hS := hspec xs bb hr _ _ w _ hlen hpar
    rw [htk] at hS
    refine hS.mono fun e w' ⟨u, he, hP⟩ => ⟨u, he, ?_⟩
    exact d04 hU h h1 h2 h3 h4 hap hck.1 hnev hnev2 hP
  . obtain ⟨u, w', hc, hP⟩ := hspec xs bb hr _ _ w _ hlen hpar
    rw [htk] at hc
    have hrun : (execOp (ev ρ) ⟨d, .call ⟨.value x, args, tys⟩, ty, ps, af, g⟩).run P w = .ok (.value u) w' := by
      simp only [execOp, resolve, Deferred.ofValue, hx, Sem.run_bind]
      simp [invoke, hc, e]
    rw [hrun]
    exact d04 hU h h1 h2 h3 h4 hap hck.1 hnev hnev2 hP
end
end Go.SX
namespace Go.PL
open Go
section
variable {P : Program} {w : World} {α : Type} {B : Nat} {E : TypeId} {n : Nat} {cells : α -> List Value} {v : Value} {l r : List α} {t : TypeId}
theorem e3r {lo hi : Option Value} {i j : Int} (hn : ∀ x, (cells x).length = n) (ht : P.underlying t = some (.slice E)) (he : (P.info? E).map (·.size) = some n) (hO : Own B E n cells w v l) (hs : a3w l i j = some r)
    (hlo : (lo = none /\ i = 0) \/ lo = some (.int .i64 i)) (hhi : (hi = none /\ j = (l.length : Int)) \/ hi = some (.int .i64 j)) :
    ∃ u, (Instr.sliceAt t v lo hi none).run P w = .ok u w /\ u.oneCell' = true /\ Own B E n cells w u r /\ (∀ k, u.ownBlock = some k -> v.ownBlock = some k) /\ (j = (l.length : Int) -> c44 u v n i r.length) := by
  obtain ⟨h0, h1, h2, hr⟩ := b4z hs
  have hlen : r.length = j.toNat - i.toNat := by rw [hr, List.length_take, List.length_drop]; omega
  obtain ⟨ad, cap, hv, hcap, _⟩ := hO.shape
  refine ⟨.slice (if cap = i.toNat then ad else ad.map (·.add (i.toNat * n))) (j.toNat - i.toNat) (cap - i.toNat), ?_, rfl, ?_, ?_, ?_⟩
  . cases hinfo : P.info? E with
    | none => simp [hinfo] at he
    | some q =>
      simp only [hinfo, Option.map_some, Option.some.injEq] at he
      subst hv
      have hj : (0 <= j /\ j <= (cap : Int)) := by omega
      have hij : (0 <= i /\ i <= (j.toNat : Int)) := by omega
      rcases hlo with ⟨rfl, rfl⟩ | rfl <;> rcases hhi with ⟨rfl, hl⟩ | rfl
      . have e1 : j.toNat = l.length := by omega
        simp [Instr.sliceAt, Instr.slice, run_underlying ht, Instr.sliceBounds, sizeOf, typeInfo, hinfo, e1]
      . simp [Instr.sliceAt, Instr.slice, run_underlying ht, Instr.sliceBounds, Instr.sliceBound, asIntOf, hj, sizeOf, typeInfo, hinfo]
      . have e1 : j.toNat = l.length := by omega
        rw [e1] at hij
        simp [Instr.sliceAt, Instr.slice, run_underlying ht, Instr.sliceBounds, Instr.sliceBound, asIntOf, hij, sizeOf, typeInfo, hinfo, he, e1]
      . simp [Instr.sliceAt, Instr.slice, run_underlying ht, Instr.sliceBounds, Instr.sliceBound, asIntOf, hj, hij, sizeOf, typeInfo, hinfo, he]
        omega
  . rcases hO with ⟨hv2, hl⟩ | ⟨gb, off, cap2, cur, hv2, hg, hh, hc, hm, hsz, htk⟩
    . rw [hv2] at hv
      subst hl
      simp only [Value.slice.injEq] at hv
      obtain ⟨rfl, _, rfl⟩ := hv
      have ha : i.toNat = 0 := by rw [List.length_nil] at h2; omega
      have hb : j.toNat = 0 := by rw [List.length_nil] at h2; omega
      have : r = [] := List.length_eq_zero_iff.1 (by rw [hlen, ha, hb])
      rw [this, if_pos ha.symm, ha, hb]
      exact Own.nil _ _ _ _ _
    . rw [hv2] at hv
      simp only [Value.slice.injEq] at hv
      obtain ⟨rfl, _, rfl⟩ := hv
      by_cases hca : cap2 = i.toNat
      . rw [if_pos hca]
        have : r = [] := List.length_eq_zero_iff.1 (by omega)
        refine .inr ⟨gb, off, cap2 - i.toNat, cur, by rw [hlen], hg, hh, by omega, by omega, ?_, ?_⟩
        . rw [hca, Nat.sub_self]; omega
        . rw [this]; simp
      . rw [if_neg hca]
        have hmul : cap2 * n = i.toNat * n + (cap2 - i.toNat) * n := by rw [<- Nat.add_mul]; congr 1; omega
        refine .inr ⟨gb, off + i.toNat * n, cap2 - i.toNat, cur, by rw [hlen, Option.map_some, Addr.add_lit], hg, hh, by omega, by omega, by omega, ?_⟩
        have e1 : (l.drop i.toNat).take (j.toNat - i.toNat) = r := hr.symm
        have e2 : (l.flatMap cells).drop (i.toNat * n) = (l.drop i.toNat).flatMap cells := c0y hn l i.toNat
        have key : ∀ (l : List α) (k : Nat), k <= l.length -> (l.flatMap cells).take (k * n) = (l.take k).flatMap cells := by
          intro l
          induction l with
          | nil => intro k hk; simp
          | cons y l ih =>
            intro k hk
            cases k with
            | zero => simp
            | succ k => rw [List.take_succ_cons, List.flatMap_cons, List.flatMap_cons, Nat.succ_mul, Nat.add_comm, <- hn y, List.take_length_add_append, hn y, ih k (by simpa using hk)]
        have e3 := key (l.drop i.toNat) (j.toNat - i.toNat) (by rw [List.length_drop]; omega)
        rw [e1, <- e2, <- htk] at e3
        rw [<- e3, List.drop_take, List.take_take, List.drop_drop, hlen]
        congr 1
        have : (j.toNat - i.toNat) * n <= l.length * n - i.toNat * n := by rw [<- Nat.sub_mul]; exact Nat.mul_le_mul_right n (by omega)
        omega
  . intro k hk
    rw [hv]
    cases ad with
    | none =>
      split at hk <;> simp [Value.ownBlock] at hk
    | some ad =>
      split at hk
      . exact hk
      . have hk : some (ad.add (i.toNat * n)).block = some k := hk
        rw [a5h] at hk; exact hk
  . intro hjl
    refine ⟨ad, l.length, cap, _, _, hv, h0, by omega, by rw [hlen], fun hp => ?_⟩
    have hne : ¬ cap = i.toNat := by omega
    rw [if_neg hne]
    cases ad with
    | none =>
      rcases hO with ⟨h5, h6⟩ | ⟨g', off', cap', cur, h5, _⟩
      . rw [h6, List.length_nil] at h2; omega
      . rw [hv] at h5; cases h5
    | some ad => exact ⟨ad, rfl, rfl⟩
end
end Go.PL
namespace Go.SX
open Go Go.PL
section
variable {P : Program} {U : Uni}
variable {E : Env} {Z : Nat -> Prop} {π : Nat -> Value} {σ : U.St} {ρ : Nat -> Value} {w : World}
variable {d : Option Tmp} {ty : TypeId} {ps : String} {af : Array Edge} {g : Option (Nat × Bool)} {x y z : Operand} {m0 m : Nat} {a b c v : U.AV} {ws : List (Nat × U.MC)} {fr : Nat}
theorem d5z {α β : Type} {p : α -> β -> Prop} {l : List α} {r r' : List β} {i j : Int} (h : q9 p l r) (hs : a3w r i j = some r') : ∃ l', a3w l i j = some l' /\ q9 p l' r' := by
  obtain ⟨h0, h1, h2, hr⟩ := b4z hs
  refine ⟨(l.drop i.toNat).take (j.toNat - i.toNat), ?_, ?_⟩
  . unfold a3w; rw [if_pos ⟨h0, h1, by rw [h.length]; exact h2⟩]
  . rw [hr]
    refine q9.of_get (by simp [h.length]) fun k a b ha hb => ?_
    rw [List.getElem?_take] at ha hb
    split at ha
    . rename_i hk
      rw [if_pos hk] at hb
      rw [List.getElem?_drop] at ha hb
      obtain ⟨b', hb', hp⟩ := h.get ha
      rw [hb] at hb'
      cases hb'
      exact hp
    . cases ha
theorem c2m {t e : TypeId} (h : c5k P t e = true) : P.underlying t = some (.slice e) := by
  unfold c5k at h
  split at h
  . rename_i e' he; rw [he, Nat.eq_of_beq_eq_true h]
  . cases h
theorem c5o {t : TypeId} {c : U.C} {l r : List (U.T c)} {e0 : TypeId} {X : Cx} {u : Value} {lo hi : Option Value} {i j : Int} (hm : MR X (.sl e0 c l) u) (he : (b1q P t c && c5k P t e0) = true) (hs : a3w l i j = some r)
    (hlo : (lo = none /\ i = 0) \/ lo = some (.int .i64 i)) (hhi : (hi = none /\ j = (l.length : Int)) \/ hi = some (.int .i64 j)) :
    ∃ u', (Instr.sliceAt t u lo hi none).run P X.w = .ok u' X.w /\ u'.oneCell' = true /\ MR X (.sl e0 c r) u' /\ (∀ k, u'.ownBlock = some k -> u.ownBlock = some k) /\ (j = (l.length : Int) -> c44 u' u (U.n c) i r.length) := by
  simp only [Bool.and_eq_true] at he
  obtain ⟨e, he1, he2, _, _⟩ := a9j he.1
  have he3 := c2m he.2
  rw [he1] at he3
  cases he3
  obtain ⟨css, hO, hr⟩ := hm
  obtain ⟨css', hs', hr'⟩ := d5z hr hs
  have hhi' : (hi = none /\ j = (css.length : Int)) \/ hi = some (.int .i64 j) := by rw [hr.length]; exact hhi
  obtain ⟨u', h1, h1', h2, h3, h4⟩ := e3r (P := P) (t := t) (fun r => r.2.1) he1 (b0h he2) hO hs' hlo hhi'
  exact ⟨u', h1, h1', ⟨css', h2, hr'⟩, h3, fun hj => by rw [<- hr'.length]; exact h4 (by rw [hr.length]; exact hj)⟩
theorem e0i (h : Rel E Z π σ ρ w) {t : TypeId} {lo hi : Option Operand} (hx : AVR (cx Z π σ w) a (ev ρ x)) (hev : (f0a P t a lo hi).Ev σ m0 m v ws) :
    a78 P E σ ρ w ⟨d, .slice t x lo hi none, ty, ps, af, g⟩ v ws := by
  unfold f0a at hev
  split at hev
  case h_2 => exact hev.elim
  rename_i id
  have hm := h.mem id
  simp only [Q.Ev] at hev
  split at hev
  case h_2 => exact hev.elim
  rename_i e0 c l hmem
  split at hev
  case h_2 => exact hev.elim
  rename_i he
  obtain ⟨i, m1, hev, hlo⟩ := b5s h hev
  split at hev
  case h_2 => exact hev.elim
  rename_i hhi
  obtain ⟨r, hr, hm1, rfl, rfl⟩ := hev
  rw [hmem] at hm
  obtain ⟨u', hrun, _, _, _, hV⟩ := c5o (P := P) (hi := none) hm he hr hlo (.inl ⟨rfl, rfl⟩)
  have hrun : (Instr.sliceAt t (π id) (lo.map (ev ρ)) none none).run P w = .ok u' w := hrun
  refine m7 h (v := u') ?_ ⟨hx.1, hV rfl⟩
  have hxv : ev ρ x = π id := hx.2.1
  rw [<- hxv] at hrun
  simp [YV, execOp, hrun]
theorem e0k (h : Rel E Z π σ ρ w) {t : TypeId} {lo hi : Option Operand} (hx : AVR (cx Z π σ w) a (ev ρ x)) (hev : (f6z P fr t a lo hi).Ev σ m0 m v ws) :
    a78 P E σ ρ w ⟨d, .slice t x lo hi none, ty, ps, af, g⟩ v ws := by
  unfold f6z at hev
  split at hev
  case h_2 => exact hev.elim
  rename_i id
  have hm := h.mem id
  simp only [Q.Ev] at hev
  split at hev
  case h_2 => exact hev.elim
  rename_i e0 c l hmem
  split at hev
  case h_2 => exact hev.elim
  rename_i he
  obtain ⟨i, m1, hev, hlo⟩ := b5s h hev
  obtain ⟨j, m2, hev, hhi⟩ := b5s h hev
  obtain ⟨r, hr, hev⟩ := hev
  obtain ⟨hn, m3, hm3, hv0, hws⟩ := b9f hev
  subst hv0
  rw [hws]
  rw [hmem] at hm
  obtain ⟨u', hrun, h1, hMR, hown, _⟩ := c5o (P := P) hm he hr hlo hhi
  have hrun : (Instr.sliceAt t (π id) (lo.map (ev ρ)) (hi.map (ev ρ)) none).run P w = .ok u' w := hrun
  have hxv : ev ρ x = π id := hx.2.1
  rw [<- hxv] at hrun
  have hex : (execOp (ev ρ) ⟨d, .slice t x lo hi none, ty, ps, af, g⟩).run P w = .ok (.value u') w := by simp [execOp, hrun]
  unfold a78 a6r
  rw [hex]
  refine ⟨Z, b8k π fr u', ?_⟩
  refine h.new (dead := [id]) hn (fun h => by cases h) (Ext.refl _ _) (fun X' hle hw _ => ?_) (fun q hq => ?_) h1
  . exact MR.le hle hMR fun b _ _ => by rw [hw]; rfl
  . obtain ⟨css, hO, _⟩ := hMR
    obtain ⟨ad, cap, hv, _⟩ := hO.shape
    have hq2 : u'.ownBlock = some q := (b5z hv).2 hq
    refine ⟨(hO.lt hq2).2, .inr ⟨id, by simp, ?_⟩⟩
    rw [hmem]
    obtain ⟨css0, hO0, _⟩ := hm
    obtain ⟨ad0, cap0, hv0, _⟩ := hO0.shape
    exact (b5z hv0).1 (hown _ hq2)
theorem e0s {α : Type} {z : α} {l r : List α} {lo : Int} {n : Nat} (h : f3h z l lo n = some r) : 0 <= lo /\ lo.toNat + n = l.length /\ r = b02 z l lo := by
  unfold f3h at h
  split at h
  . rename_i hc; exact ⟨hc.1, hc.2, (Option.some.inj h).symm⟩
  . cases h
theorem d39 {α β : Type} {p : α -> β -> Prop} {a : α} {b : β} (h : p a b) : ∀ n : Nat, q9 p (List.replicate n a) (List.replicate n b)
  | 0 => trivial
  | n + 1 => ⟨h, d39 h n⟩
theorem c8s {α β : Type} {p : α -> β -> Prop} : ∀ {l : List α} {r : List β} (n : Nat), q9 p l r -> q9 p (l.take n) (r.take n)
  | _, _, 0, _ => by simp [q9]
  | [], [], _ + 1, _ => trivial
  | _ :: _, _ :: _, n + 1, h => ⟨h.1, c8s n h.2⟩
  | [], _ :: _, _ + 1, h => h.elim
  | _ :: _, [], _ + 1, h => h.elim
theorem d5d (hU : UOK U) (h : Rel E Z π σ ρ w) {t : TypeId} (hx : AVR (cx Z π σ w) a (ev ρ x)) (hev : (d6p P t a).Ev σ m0 m v ws) :
    a78 P E σ ρ w ⟨d, .call ⟨.builtin .clear, #[x], #[t]⟩, ty, ps, af, g⟩ v ws := by
  unfold d6p at hev
  split at hev
  case h_2 => exact hev.elim
  rename_i id c lo n
  have hm := h.mem id
  simp only [Q.Ev] at hev
  split at hev
  case h_2 => exact hev.elim
  rename_i e c' l' hmem
  split at hev
  case h_2 => exact hev.elim
  rename_i l za hck hl hza
  simp only [Bool.and_eq_true] at hck
  have ht := c2m hck.1
  obtain ⟨he, hx2⟩ := a54 (G := noG) (w := w) hl
  subst he
  subst hx2
  split at hev
  case h_2 => exact hev.elim
  rename_i zv hzv
  obtain ⟨r, hr, hm1, rfl, rfl⟩ := hev
  obtain ⟨h0, hlen, rfl⟩ := e0s hr
  rw [hmem] at hm
  have hm0 := hm
  obtain ⟨css, hO, hrs⟩ := hm
  obtain ⟨ie, zval, hie, hz, hzs, hsz1, hp1, hp2⟩ := c0g hck.2
  have hzc : ∃ zr : Raw (U.n c'), zval.cells.toList = zr.1 /\ ∀ G w, (Rp c').rep G w zr.1 zv := by
    unfold b9z at hza
    rw [hie] at hza
    dsimp only at hza
    rw [hz] at hza
    have key : ∀ (Z' : Nat -> Prop) (w' : World), (Rp c').rep (cz Z' w').G w' zval.cells.toList zv := fun Z' w' => by
      obtain ⟨u, hu, hru⟩ := c06 hU (X := cz Z' w') _ _ _ _ hza
      have := b5v hU hzv hru
      rw [hu] at this
      exact this
    have key2 : ∀ (G : Nat -> Prop) (w' : World), (Rp c').rep G w' zval.cells.toList zv := fun G w' => (Rp c').weaken (key (fun b => ¬ G b) w') fun b _ hg hz => hz hg
    exact ⟨d0n (key2 noG w), rfl, key2⟩
  obtain ⟨zr, hzr1, hzr2⟩ := hzc
  have hcl := d4k (P := P) (w := w) (G := fun b => (π id).ownBlock = some b) (ρ := ρ) (F := [(0, fun _ w' => Own 0 e (U.n c') Subtype.val w' (π id) (b02 zr css lo))]) (p := ⟨[], [], [], [0], [], [], []⟩) (i := 0) (B := 0) (E := e) (n := U.n c') (cells := (Subtype.val : Raw (U.n c') -> List Value)) (v := π id) (u := ev ρ x) (zv := zval) (l := css) (z := zr) (t := t) (x := x) (a := lo) (len := n)
    (ty := ty) (ps := ps) (af := af) (g := g) rfl rfl (fun b hb => hb) (fun r => r.2.1) (fun r => r.2.2) (by omega) rfl ht (fun w' => by simp [zeroValue, typeInfo, hie, hz]) hzr1 hx.2 hO
  refine (show a6r P ⟨d, .call ⟨.builtin .clear, #[x], #[t]⟩, ty, ps, af, g⟩ (ev ρ) w _ from hcl).mono fun u w' ⟨hE, hf⟩ => ?_
  have hf : Own 0 e (U.n c') Subtype.val w' (π id) (b02 zr css lo) := hf
  have hE : Ext (fun b => (π id).ownBlock = some b) w w' := hE
  have hbk : ∀ b, (π id).ownBlock = some b -> MB (σ.mem id) (π id) b := fun b hb => by
    rw [hmem]
    obtain ⟨ad0, cap0, hv0, _⟩ := hO.shape
    exact (b5z hv0).1 hb
  refine ⟨Z, π, h.set (fun hh => by rw [hmem] at hh; cases hh) (fun hh => by cases hh) (hE.mono hbk) (fun X' hle hw => ?_) (fun y hy => ?_) fun X' _ => trivial⟩
  . refine ⟨b02 zr css lo, by rw [hw]; exact hf, ?_⟩
    unfold b02
    rw [hrs.length]
    exact a7v (c8s _ (hrs.mono fun _ _ hh => b9h hle hh)) (d39 (p := fun (r : Raw (U.n c')) x => (Rp c').rep X'.G X'.w r.1 x) (hzr2 _ _) _)
  . rw [hmem]; exact hy
end
end Go.SX
namespace Go.SX
open Go Go.PL
section
variable {P : Program} {U : Uni}
variable {E : Env} {Z : Nat -> Prop} {π : Nat -> Value} {σ : U.St} {ρ : Nat -> Value} {w : World}
variable {m0 m : Nat} {a b v : U.AV} {ws : List (Nat × U.MC)} {fr : Nat}
def OKΦ (P : Program) (Φ : Phi U) : Prop := ∀ f as fe, Φ f as = some fe -> e3h P f fe
theorem c74 {α : Type} {a : Array α} {x : α} (h : a.toList = [x]) : a = #[x] := by apply Array.ext'; simpa using h
theorem c6g {α : Type} {a : Array α} {x y : α} (h : a.toList = [x, y]) : a = #[x, y] := by apply Array.ext'; simpa using h
theorem d19 (hU : UOK U) {Φ : Phi U} (hΦ : OKΦ P Φ) (h : Rel E Z π σ ρ w) {o : Oper} (hev : (opQ P Φ fr o.op).Ev σ m0 m v ws) : a78 P E σ ρ w o v ws := by
  obtain ⟨d, op, ty, ps, af, g⟩ := o
  cases op <;> try exact hev.elim
  case move x => exact c82 h (.inl rfl) hev
  case assign x => exact c82 h (.inr rfl) hev
  case pick c x y =>
    obtain ⟨e, m1, he, hev⟩ := a1k h hev
    obtain ⟨p, m2, hp, hev⟩ := a1k h hev
    obtain ⟨q, m3, hq, hev⟩ := a1k h hev
    unfold f3j at hev
    split at hev
    . obtain ⟨hm, rfl, rfl⟩ := hev; exact e1g h he hp hq
    . exact hev.elim
  case alloc t => exact d5y hU h hev
  case box t x =>
    obtain ⟨a, m1, ha, hev⟩ := a1k h hev
    exact e1t h ha hev
  case build t psr =>
    obtain ⟨as, m1, has, hev⟩ := c41 h hev
    split at hev
    . exact d20 hU h has hev
    . exact d62 hU h has hev
  case buildSlice t n psr =>
    obtain ⟨as, m1, has, hev⟩ := c41 h hev
    exact c3i hU h has hev
  case load t x =>
    obtain ⟨a, m1, ha, hev⟩ := a1k h hev
    exact d6i hU h ha hev
  case store t x y =>
    obtain ⟨a, m1, ha, hev⟩ := a1k h hev
    obtain ⟨b, m2, hb, hev⟩ := a1k h hev
    exact d57 hU h ha hb hev
  case range t x =>
    obtain ⟨a, m1, ha, hev⟩ := a1k h hev
    exact d4n h ha hev
  case next x b =>
    cases b
    . exact hev.elim
    . obtain ⟨a, m1, ha, hev⟩ := a1k h hev
      exact d9o h ha hev
  case nilCheck x =>
    obtain ⟨a, m1, ha, hev⟩ := a1k h hev
    exact e32 h ha hev
  case binOp op t x y t' =>
    obtain ⟨a, m1, ha, hev⟩ := a1k h hev
    obtain ⟨b, m2, hb, hev⟩ := a1k h hev
    split at hev
    . rename_i hv; exact e4d hU h hv ha hb hev
    . exact e2k h ha hb hev
  case unOp op t x =>
    obtain ⟨a, m1, ha, hev⟩ := a1k h hev
    exact e8h h ha hev
  case convert s t x =>
    obtain ⟨a, m1, ha, hev⟩ := a1k h hev
    split at hev
    . rename_i hb; exact e4x hU h hb ha hev
    . exact e0q h ha hev
  case makeFunc fn first cs =>
    simp only [opQ] at hev
    split at hev
    . rename_i f hf
      have : first = #[] := by apply Array.ext'; simpa using hf
      subst this
      exact c6o h hev
    . exact hev.elim
  case slice t x lo hi mx =>
    cases mx with
    | some _ => exact hev.elim
    | none =>
      obtain ⟨a, m1, ha, hev⟩ := a1k h hev
      exact d53 hU h ha hev
  case fieldAddr s x f =>
    obtain ⟨a, m1, ha, hev⟩ := a1k h hev
    split at hev
    . exact d0w h ha hev
    . exact d5p hU h ha hev
  case field s x f =>
    obtain ⟨a, m1, ha, hev⟩ := a1k h hev
    exact d4j hU h ha hev
  case indexAddr t x y =>
    obtain ⟨a, m1, ha, hev⟩ := a1k h hev
    obtain ⟨b, m2, hb, hev⟩ := a1k h hev
    exact c45 hU h ha hb hev
  case index t x y =>
    obtain ⟨a, m1, ha, hev⟩ := a1k h hev
    obtain ⟨b, m2, hb, hev⟩ := a1k h hev
    exact d50 hU h ha hb hev
  case extract x i =>
    obtain ⟨a, m1, ha, hev⟩ := a1k h hev
    exact d01 h ha hev
  case call c =>
    obtain ⟨cal, args, tys⟩ := c
    cases cal with
    | invoke _ _ => exact hev.elim
    | value x =>
      obtain ⟨a, m1, ha, hev⟩ := a1k h hev
      split at hev
      . rename_i f cs
        obtain ⟨vs, hv, hcs⟩ := ha
        obtain ⟨as, m2, has, hev⟩ := c41 h hev
        exact e02 hU hΦ h hv hcs has hev
      . exact hev.elim
    | builtin bi =>
      cases bi <;> try exact hev.elim
      case append =>
        simp only [opQ] at hev
        split at hev
        . rename_i x y t t' hx ht
          split at hev
          . rename_i hb
            have := Nat.eq_of_beq_eq_true hb
            subst this
            obtain ⟨a, m1, ha, hev⟩ := a1k h hev
            obtain ⟨b, m2, hb, hev⟩ := a1k h hev
            rw [c6g hx, c6g ht]
            exact e2z hU h ha hb hev
          . exact hev.elim
        . exact hev.elim
      case clear =>
        simp only [opQ] at hev
        split at hev
        . rename_i x t hx ht
          obtain ⟨a, m1, ha, hev⟩ := a1k h hev
          rw [c74 hx, c74 ht]
          exact d5d hU h ha hev
        . exact hev.elim
      case len =>
        simp only [opQ] at hev
        split at hev
        . rename_i x t hx ht
          obtain ⟨a, m1, ha, hev⟩ := a1k h hev
          rw [c74 hx, c74 ht]
          exact e2b h ha hev
        . exact hev.elim
      case max =>
        simp only [opQ] at hev
        split at hev
        . rename_i x y hx
          obtain ⟨a, m1, ha, hev⟩ := a1k h hev
          obtain ⟨b, m2, hb, hev⟩ := a1k h hev
          rw [c6g hx]
          exact d90 (mx := true) h ha hb hev
        . exact hev.elim
      case min =>
        simp only [opQ] at hev
        split at hev
        . rename_i x y hx
          obtain ⟨a, m1, ha, hev⟩ := a1k h hev
          obtain ⟨b, m2, hb, hev⟩ := a1k h hev
          rw [c6g hx]
          exact d90 (mx := false) h ha hb hev
        . exact hev.elim
theorem e1z (hU : UOK U) {Φ : Phi U} (hΦ : OKΦ P Φ) (h : Rel E Z π σ ρ w) {o : Oper} {sp : List Nat} {i : Nat} (hev : (opX P Φ sp i fr o.op).Ev σ m0 m v ws) : a78 P E σ ρ w o v ws := by
  unfold opX at hev
  split at hev
  . exact d19 hU hΦ h hev
  . split at hev
    . rename_i t x lo hi hop
      obtain ⟨d, op, ty, ps, af, g⟩ := o
      have hop : op = .slice t x lo hi none := hop
      subst hop
      split at hev
      . obtain ⟨a, m1, ha, hev⟩ := a1k h hev
        exact e0i h ha hev
      . obtain ⟨a, m1, ha, hev⟩ := a1k h hev
        exact e0k h ha hev
      . exact d19 hU hΦ h hev
    . exact d19 hU hΦ h hev
def f2e (σ σ' : U.St) (m : Nat) : Prop := (∀ t, m.testBit (2 * t) = true -> σ'.slot t = σ.slot t) /\ ∀ id, m.testBit (2 * id + 1) = true -> σ'.mem id = σ.mem id
theorem a5m (m k i : Nat) : (m ||| 2 ^ k).testBit i = (m.testBit i || decide (i = k)) := by
  rw [Nat.testBit_or, Nat.testBit_two_pow]
  congr 1
  simp [eq_comm]
theorem e1e {q : U.Q} : ∀ {m0 m : Nat} {v : U.AV} {ws : List (Nat × U.MC)}, q.Ev σ m0 m v ws -> ∀ i, m0.testBit i = true -> m.testBit i = true := by
  induction q with
  | rdT t k ih => intro m0 m v ws h i hi; exact ih _ h.2 i (by rw [a5m, hi]; rfl)
  | rdM id k ih => intro m0 m v ws h i hi; exact ih _ h i (by rw [a5m, hi]; rfl)
  | opt o k ih => intro m0 m v ws h i hi; obtain ⟨b, _, h⟩ := h; exact ih b h i hi
  | cas o n k ih0 ih =>
    intro m0 m v ws h i hi
    rcases h with ⟨_, h⟩ | ⟨b, _, h⟩
    . exact ih0 h i hi
    . exact ih b h i hi
  | done v' ws' => intro m0 m v ws h i hi; rw [h.1]; exact hi
  | fail => intro m0 m v ws h; exact h.elim
theorem d2m {σ' : U.St} {q : U.Q} : ∀ {m0 m : Nat} {v : U.AV} {ws : List (Nat × U.MC)}, q.Ev σ m0 m v ws -> f2e σ σ' m -> q.Ev σ' m0 m v ws := by
  induction q with
  | rdT t k ih =>
    intro m0 m v ws h ha
    have hb := e1e h.2 (2 * t) (by rw [a5m]; simp)
    have e := ha.1 t hb
    refine ⟨by rw [e]; exact h.1, ?_⟩
    rw [e]; exact ih _ h.2 ha
  | rdM id k ih =>
    intro m0 m v ws h ha
    have h : (k (σ.mem id)).Ev σ (m0 ||| 2 ^ (2 * id + 1)) m v ws := h
    have hb := e1e h (2 * id + 1) (by rw [a5m]; simp)
    have e := ha.2 id hb
    show (k (σ'.mem id)).Ev σ' _ m v ws
    rw [e]; exact ih _ h ha
  | opt o k ih => intro m0 m v ws h ha; obtain ⟨b, hb, h⟩ := h; exact ⟨b, hb, ih b h ha⟩
  | cas o n k ih0 ih =>
    intro m0 m v ws h ha
    rcases h with ⟨hb, h⟩ | ⟨b, hb, h⟩
    . exact .inl ⟨hb, ih0 h ha⟩
    . exact .inr ⟨b, hb, ih b h ha⟩
  | done v' ws' => intro m0 m v ws h ha; exact h
  | fail => intro m0 m v ws h; exact h.elim
theorem c8j {R : Type} {q : U.Q} : ∀ {m0 : Nat} {K : Nat -> U.AV -> List (Nat × U.MC) -> Option R} {r : R}, q.eval σ m0 K = some r -> ∃ m v ws, q.Ev σ m0 m v ws /\ K m v ws = some r := by
  induction q with
  | rdT t k ih =>
    intro m0 K r h
    simp only [Q.eval] at h
    cases hs : σ.slot t <;> rw [hs] at h <;> first
      | (cases h; done)
      | (obtain ⟨m, v, ws, h1, h2⟩ := ih _ h
         exact ⟨m, v, ws, ⟨(by rw [hs]; intro e; cases e), (by rw [hs]; exact h1)⟩, h2⟩)
  | rdM id k ih => intro m0 K r h; exact ih _ h
  | opt o k ih =>
    intro m0 K r h
    obtain ⟨b, hb, h⟩ := f4r (show o.bind _ = some r from h)
    obtain ⟨m, v, ws, h1, h2⟩ := ih b h
    exact ⟨m, v, ws, ⟨b, hb, h1⟩, h2⟩
  | cas o n k ih0 ih =>
    intro m0 K r h
    have h : optC o (n.eval σ m0 K) (fun b => (k b).eval σ m0 K) = some r := h
    cases ho : o with
    | none =>
      rw [ho] at h
      obtain ⟨m, v, ws, h1, h2⟩ := ih0 h
      exact ⟨m, v, ws, .inl ⟨rfl, h1⟩, h2⟩
    | some b =>
      rw [ho] at h
      obtain ⟨m, v, ws, h1, h2⟩ := ih b h
      exact ⟨m, v, ws, .inr ⟨b, rfl, h1⟩, h2⟩
  | done v ws => intro m0 K r h; exact ⟨m0, v, ws, ⟨rfl, rfl, rfl⟩, h⟩
  | fail => intro m0 K r h; cases h
end
end Go.SX
namespace Go.SX
open Go Go.PL
section
variable {P : Program} {U : Uni} {Φ : Phi U}
structure En (U : Uni) where
  d : Option Tmp
  m : Nat
  v : U.AV
  ws : List (Nat × U.MC)
def c35 (P : Program) (Φ : Phi U) (C : RegC) (i : Nat) (o : Oper) (σ : U.St) (e : En U) : Prop :=
  e.d = o.dst /\ ((gq C.ops o (opX P Φ C.sp i (C.base + 16 * i) o.op)).Ev σ 0 e.m e.v e.ws \/ (gq C.ops o (e0o o.op)).Ev σ 0 e.m e.v e.ws)
def Tr (P : Program) (Φ : Phi U) (C : RegC) : Nat -> List Oper -> U.St -> List (En U) -> U.St -> Prop
  | _, [], σ, [], σ' => σ' = σ
  | k, o :: os, σ, e :: es, σ' => c35 P Φ C k o σ e /\ Tr P Φ C (k + 1) os (σ.app e.d e.v e.ws) es σ'
  | _, _, _, _, _ => False
theorem Tr.append {C : RegC} : ∀ {k : Nat} {os os' : List Oper} {σ σ1 σ2 : U.St} {es es' : List (En U)}, Tr P Φ C k os σ es σ1 -> Tr P Φ C (k + os.length) os' σ1 es' σ2 -> Tr P Φ C k (os ++ os') σ (es ++ es') σ2
  | k, [], os', σ, σ1, σ2, [], es', h, h' => by have h : σ1 = σ := h; subst h; simpa using h'
  | k, o :: os, os', σ, σ1, σ2, e :: es, es', h, h' => ⟨h.1, Tr.append h.2 (by rwa [show k + 1 + os.length = k + (o :: os).length by simp; omega])⟩
  | _, [], _, _, _, _, _ :: _, _, h, _ => h.elim
  | _, _ :: _, _, _, _, _, [], _, h, _ => h.elim
theorem Tr.len {C : RegC} : ∀ {k : Nat} {os : List Oper} {σ σ1 : U.St} {es : List (En U)}, Tr P Φ C k os σ es σ1 -> es.length = os.length
  | k, [], σ, σ1, [], h => rfl
  | k, o :: os, σ, σ1, e :: es, h => by simp [Tr.len h.2]
  | _, [], _, _, _ :: _, h => h.elim
  | _, _ :: _, _, _, [], h => h.elim
def d4v (σ σ' : U.St) : Prop := (∀ t, σ.slot t = .unk \/ σ'.slot t = σ.slot t) /\ ∀ id, σ'.mem id = σ.mem id
theorem d4v.app {σ σ' : U.St} (h : d4v σ σ') (d : Option Tmp) (v : U.AV) (ws : List (Nat × U.MC)) : d4v (σ.app d v ws) (σ'.app d v ws) := by
  refine ⟨fun t => ?_, fun id => ?_⟩
  . rw [a3d, a3d]; split
    . exact .inr rfl
    . exact h.1 t
  . rw [a2e, a2e, h.2 id]
theorem d4v.ev {σ σ' : U.St} (h : d4v σ σ') {q : U.Q} : ∀ {m0 m : Nat} {v : U.AV} {ws : List (Nat × U.MC)}, q.Ev σ m0 m v ws -> q.Ev σ' m0 m v ws := by
  induction q with
  | rdT t k ih =>
    intro m0 m v ws hh
    have e : σ'.slot t = σ.slot t := (h.1 t).resolve_left hh.1
    exact ⟨(by rw [e]; exact hh.1), (by rw [e]; exact ih _ hh.2)⟩
  | rdM id k ih => intro m0 m v ws hh; show (k (σ'.mem id)).Ev σ' _ m v ws; rw [h.2 id]; exact ih _ hh
  | opt o k ih => intro m0 m v ws hh; obtain ⟨b, hb, hh⟩ := hh; exact ⟨b, hb, ih b hh⟩
  | cas o n k ih0 ih =>
    intro m0 m v ws hh
    rcases hh with ⟨hb, hh⟩ | ⟨b, hb, hh⟩
    . exact .inl ⟨hb, ih0 hh⟩
    . exact .inr ⟨b, hb, ih b hh⟩
  | done v' ws' => intro m0 m v ws hh; exact hh
  | fail => intro m0 m v ws hh; exact hh.elim
theorem d88 {σ : U.St} {q : U.Q} (x : Nat) : ∀ {m0 m : Nat} {v : U.AV} {ws : List (Nat × U.MC)}, q.Ev σ m0 m v ws -> q.Ev σ (x ||| m0) (x ||| m) v ws := by
  induction q with
  | rdT t k ih => intro m0 m v ws hh; refine ⟨hh.1, ?_⟩; have := ih _ hh.2; rwa [<- Nat.or_assoc] at this
  | rdM id k ih => intro m0 m v ws hh; have := ih _ (show (k (σ.mem id)).Ev σ _ m v ws from hh); rw [<- Nat.or_assoc] at this; exact this
  | opt o k ih => intro m0 m v ws hh; obtain ⟨b, hb, hh⟩ := hh; exact ⟨b, hb, ih b hh⟩
  | cas o n k ih0 ih =>
    intro m0 m v ws hh
    rcases hh with ⟨hb, hh⟩ | ⟨b, hb, hh⟩
    . exact .inl ⟨hb, ih0 hh⟩
    . exact .inr ⟨b, hb, ih b hh⟩
  | done v' ws' => intro m0 m v ws hh; exact ⟨by rw [hh.1], hh.2⟩
  | fail => intro m0 m v ws hh; exact hh.elim
def Sub (m s : Nat) : Prop := ∀ i, m.testBit i = true -> s.testBit i = true
theorem d7t {m s : Nat} (h : f6n m s = true) : Sub m s := by
  intro i hi
  have := Nat.eq_of_beq_eq_true h
  rw [<- this, Nat.testBit_or, hi]; rfl
def b6y (C : RegC) (ctx : List (Nat × Bool)) (σ : U.St) : Prop := ∀ q ∈ ctx, ∃ t, c0f C.ops q.1 = some t /\ σ.slot t = .bool q.2
theorem b6y.app {C : RegC} {ctx : List (Nat × Bool)} {σ : U.St} (h : b6y C ctx σ) {d : Option Tmp} {v : U.AV} {ws : List (Nat × U.MC)} (hk : c7h C ctx d = true) : b6y C ctx (σ.app d v ws) := by
  intro q hq
  obtain ⟨t, ht, hs⟩ := h q hq
  refine ⟨t, ht, ?_⟩
  rw [a3d]
  split
  . rename_i hd
    subst hd
    have := List.all_eq_true.1 hk q hq
    rw [ht] at this
    simp at this
  . exact hs
def f5g (e : En U) (w : Nat) : Prop := (∀ d, e.d = some d -> w.testBit (2 * d) = true) /\ ∀ id m, lk id e.ws = some m -> w.testBit (2 * id + 1) = true
def d7p (C : RegC) (ctx : List (Nat × Bool)) (k : Nat) (os : List Oper) (es : List (En U)) (hist hist' : List (Nat × Nat × Nat)) : Prop := match ctx with
  | [] => ∃ lg : List (Nat × Nat × Nat), hist' = lg.reverse ++ hist /\ (C.draw = true -> b1p C lg hist = true) /\ lg.length = es.length /\ ∀ (j : Nat) (e : En U) (g : Nat × Nat × Nat), es[j]? = some e -> lg[j]? = some g -> g.1 = k + j /\ Sub e.m g.2.1 /\ f5g e g.2.2
  | _ :: _ => hist' = hist /\ ∀ (j : Nat) (e : En U) (o : Oper), es[j]? = some e -> os[j]? = some o -> e.ws = [] /\ Sub e.m (b4m C.ops o C.lim)
theorem b9a {C : RegC} : ∀ (a b hist : List (Nat × Nat × Nat)), b1p C a hist = true -> b1p C b (a.reverse ++ hist) = true -> b1p C (a ++ b) hist = true
  | [], b, hist, _, h => by simpa using h
  | e :: a, b, hist, h, h' => by
    simp only [b1p, Bool.and_eq_true] at h
    simp only [List.cons_append, b1p, Bool.and_eq_true]
    exact ⟨h.1, b9a a b (e :: hist) h.2 (by simpa using h')⟩
theorem q8 {α : Type} {l r : List α} {j : Nat} {a : α} (h : (l ++ r)[j]? = some a) : (j < l.length /\ l[j]? = some a) \/ (l.length <= j /\ r[j - l.length]? = some a) := by
  rcases Nat.lt_or_ge j l.length with hj | hj
  . rw [List.getElem?_append_left hj] at h; exact .inl ⟨hj, h⟩
  . rw [List.getElem?_append_right hj] at h; exact .inr ⟨hj, h⟩
theorem d7p.append {C : RegC} {ctx : List (Nat × Bool)} {k : Nat} {os os' : List Oper} {es es' : List (En U)} {h0 h1 h2 : List (Nat × Nat × Nat)} (hl : es.length = os.length) (h : d7p C ctx k os es h0 h1) (h' : d7p C ctx (k + os.length) os' es' h1 h2) : d7p C ctx k (os ++ os') (es ++ es') h0 h2 := by
  cases ctx with
  | nil =>
    obtain ⟨lg, e1, e2, e3, e4⟩ := h
    obtain ⟨lg', f1, f2, f3, f4⟩ := h'
    refine ⟨lg ++ lg', by rw [f1, e1]; simp, fun hd => b9a _ _ _ (e2 hd) (by rw [<- e1]; exact f2 hd), by simp [e3, f3], fun j e g he hg => ?_⟩
    rcases q8 he with ⟨hj, he⟩ | ⟨hj, he⟩
    . rcases q8 hg with ⟨hj', hg⟩ | ⟨hj', hg⟩
      . exact e4 j e g he hg
      . omega
    . rcases q8 hg with ⟨hj', hg⟩ | ⟨hj', hg⟩
      . omega
      . rw [e3] at hg
        obtain ⟨g1, g2, g3⟩ := f4 _ e g he hg
        exact ⟨by omega, g2, g3⟩
  | cons c ctx =>
    refine ⟨h'.1.trans h.1, fun j e o he ho => ?_⟩
    rcases q8 he with ⟨hj, he⟩ | ⟨hj, he⟩
    . rcases q8 ho with ⟨hj', ho⟩ | ⟨hj', ho⟩
      . exact h.2 j e o he ho
      . omega
    . rcases q8 ho with ⟨hj', ho⟩ | ⟨hj', ho⟩
      . omega
      . rw [hl] at he; exact h'.2 _ e o he ho
theorem e4b {l : List Nat} {k : Nat} (h : k ∈ l) : (bits l).testBit k = true := by
  have key : ∀ (l : List Nat) (m : Nat), (m.testBit k = true \/ k ∈ l) -> (l.foldl (fun m k => m ||| 2 ^ k) m).testBit k = true := by
    intro l
    induction l with
    | nil => intro m h; simpa using h
    | cons x l ih =>
      intro m h
      refine ih _ ?_
      rw [a5m]
      rcases h with h | h
      . left; rw [h]; rfl
      . rcases List.mem_cons.1 h with h | h
        . left; simp [h]
        . exact .inr h
  exact key l 0 (.inr h)
theorem c4w {ops : List Oper} {o : Oper} {b t : Nat} (h : t ∈ e36 o) : (b4m ops o b).testBit (2 * t) = true := by
  unfold b4m
  rw [Nat.testBit_or, Nat.testBit_or, e4b (List.mem_map_of_mem h)]; rfl
theorem b51 {ops : List Oper} {o : Oper} {b g t : Nat} {w : Bool} (h : o.guard = some (g, w)) (ht : c0f ops g = some t) : (b4m ops o b).testBit (2 * t) = true := by
  unfold b4m
  rw [h]
  simp only [ht]
  rw [Nat.testBit_or, Nat.testBit_two_pow]
  simp
theorem c4q : ∀ (os : List Oper) (k : Nat) (p : Nat × Oper -> Bool), ∃ os1 os2, os = os1 ++ os2 /\ (a8x k os).takeWhile p = a8x k os1 /\ (a8x k os).dropWhile p = a8x (k + os1.length) os2 /\ ∀ q ∈ a8x k os1, p q = true
  | [], k, p => ⟨[], [], rfl, rfl, rfl, fun q h => by cases h⟩
  | o :: os, k, p => by
    cases hp : p (k, o) with
    | false => exact ⟨[], o :: os, rfl, by simp [a8x, hp], by simp [a8x, hp], fun q h => by cases h⟩
    | true =>
      obtain ⟨os1, os2, h1, h2, h3, h4⟩ := c4q os (k + 1) p
      refine ⟨o :: os1, os2, by rw [h1]; rfl, by simp [a8x, hp, h2], ?_, fun q h => ?_⟩
      . simp only [a8x, List.dropWhile_cons, hp, if_true, h3, List.length_cons]
        congr 1; omega
      . rcases List.mem_cons.1 h with h | h
        . rw [h]; exact hp
        . exact h4 q h
theorem c1l : ∀ (os : List Oper) (k j : Nat) (o : Oper), os[j]? = some o -> (a8x k os)[j]? = some (k + j, o)
  | [], k, j, o, h => by simp at h
  | x :: os, k, 0, o, h => by simp at h; subst h; rfl
  | x :: os, k, j + 1, o, h => by
    have := c1l os (k + 1) j o (by simpa using h)
    simp only [a8x, List.getElem?_cons_succ, this, show k + 1 + j = k + (j + 1) by omega]
theorem d2a : ∀ {os : List Oper} {k : Nat} {q : Nat × Oper}, q ∈ a8x k os -> ∃ j, q.1 = k + j /\ os[j]? = some q.2
  | [], k, q, h => by cases h
  | x :: os, k, q, h => by
    rcases List.mem_cons.1 h with h | h
    . exact ⟨0, by rw [h]; rfl, by rw [h]; rfl⟩
    . obtain ⟨j, h1, h2⟩ := d2a h
      exact ⟨j + 1, by omega, by simpa using h2⟩
theorem b89 : ∀ (l : List (Nat × Oper)) (σ : U.St) (t : Nat), ((b06 σ l).slot t = .unk) \/ ((b06 σ l).slot t = σ.slot t /\ ∀ q ∈ l, q.2.dst ≠ some t)
  | [], σ, t => .inr ⟨rfl, fun q h => by cases h⟩
  | q :: l, σ, t => by
    rcases b89 l (σ.put q.2.dst .unk) t with h | ⟨h, h'⟩
    . exact .inl h
    . have e : (σ.put q.2.dst .unk).slot t = if q.2.dst = some t then .unk else σ.slot t := a3d σ q.2.dst .unk [] t
      have h : (b06 σ (q :: l)).slot t = (σ.put q.2.dst .unk).slot t := h
      rw [e] at h
      split at h
      . exact .inl h
      . rename_i hd
        exact .inr ⟨h, fun q' hq' => by rcases List.mem_cons.1 hq' with e' | e'; rw [e']; exact hd; exact h' q' e'⟩
theorem c2y : ∀ (l : List (Nat × Oper)) (σ : U.St) (t : Nat), (∀ q ∈ l, q.2.dst ≠ some t) -> (b06 σ l).slot t = σ.slot t
  | [], σ, t, _ => rfl
  | q :: l, σ, t, h => by
    have h1 := c2y l (σ.put q.2.dst .unk) t fun q' hq' => h q' (List.mem_cons_of_mem _ hq')
    have e : (σ.put q.2.dst .unk).slot t = if q.2.dst = some t then .unk else σ.slot t := a3d σ q.2.dst .unk [] t
    rw [if_neg (h q List.mem_cons_self)] at e
    exact h1.trans e
theorem c07 : ∀ (l : List (Nat × Oper)) (σ : U.St) (id : Nat), (b06 σ l).mem id = σ.mem id
  | [], σ, id => rfl
  | q :: l, σ, id => by
    have h := c07 l (σ.put q.2.dst .unk) id
    have e : (σ.put q.2.dst .unk).mem id = σ.mem id := a2e σ q.2.dst .unk [] id
    rw [e] at h; exact h
theorem d1v {C : RegC} : ∀ {k : Nat} {os : List Oper} {σ σ1 : U.St} {es : List (En U)}, Tr P Φ C k os σ es σ1 -> (∀ e ∈ es, e.ws = []) -> (∀ id, σ1.mem id = σ.mem id) /\ ∀ t, (∀ o ∈ os, o.dst ≠ some t) -> σ1.slot t = σ.slot t
  | k, [], σ, σ1, [], h, _ => by have h : σ1 = σ := h; subst h; exact ⟨fun _ => rfl, fun _ _ => rfl⟩
  | k, o :: os, σ, σ1, e :: es, h, hw => by
    obtain ⟨h1, h2⟩ := d1v h.2 fun e he => hw e (List.mem_cons_of_mem _ he)
    have hw0 := hw e List.mem_cons_self
    refine ⟨fun id => ?_, fun t ht => ?_⟩
    . rw [h1 id, a2e, hw0]; rfl
    . rw [h2 t fun o ho => ht o (List.mem_cons_of_mem _ ho), a3d, if_neg]
      rw [h.1.1]; exact ht o List.mem_cons_self
  | _, [], _, _, _ :: _, h, _ => h.elim
  | _, _ :: _, _, _, [], h, _ => h.elim
theorem c57 {σ σ' : U.St} (h : d4v σ σ') {x : Operand} {b : Bool} (hb : b5l σ x = some b) : b5l σ' x = some b := by
  unfold b5l at hb ⊢
  split at hb
  . exact hb
  . rename_i t
    split at hb
    . rename_i b' hs
      have : σ'.slot t = σ.slot t := (h.1 t).resolve_left (by rw [hs]; intro e; cases e)
      rw [this, hs]; exact hb
    . cases hb
  . cases hb
def opM : Operand -> Nat
  | .tmp t => 2 ^ (2 * t)
  | _ => 0
theorem c01 {σ : U.St} {t : Nat} {e : Bool} (h : σ.slot t = .bool e) : σ.slot t ≠ .unk := by rw [h]; intro h; cases h
theorem e2j {σ : U.St} {t : Nat} (h : σ.slot t = .undef) : σ.slot t ≠ .unk := by rw [h]; intro h; cases h
theorem e1q {σ : U.St} {x : Operand} {b : Bool} (hb : b5l σ x = some b) (m : Nat) : (rdO x fun y => (.done y [] : U.Q)).Ev σ m (m ||| opM x) (.bool b) [] := by
  cases x with
  | tmp t =>
    simp only [b5l] at hb
    split at hb
    . rename_i b' hs
      cases hb
      exact ⟨c01 hs, rfl, hs.symm, rfl⟩
    . cases hb
  | const c =>
    cases c <;> try cases hb
    exact ⟨by simp [opM], rfl, rfl⟩
  | global g => cases hb
  | func f => cases hb
theorem d99 {C : RegC} {ctx : List (Nat × Bool)} {σ : U.St} {q : Nat × Oper} {d t : Tmp} {x y : Operand} {e c : Bool} (hp : c9f q = some (d, t, x, y)) (hg : okG ctx q.2 = true) (hctx : b6y C ctx σ) (hs : σ.slot t = .bool e) (hb : b5l σ (if e = true then x else y) = some c) :
    ∃ m, c35 P Φ C q.1 q.2 σ ⟨some d, m, .bool c, []⟩ /\ Sub m (b4m C.ops q.2 C.lim) := by
  unfold c9f at hp
  split at hp
  . rename_i d0 t0 x0 y0 hd ho
    cases hp
    have hev : (e0o q.2.op : U.Q).Ev σ 0 (2 ^ (2 * t) ||| (opM (if e = true then x else y))) (.bool c) [] := by
      rw [ho]
      refine ⟨c01 hs, ?_⟩
      show Q.Ev σ (match σ.slot t with | .bool e => (match e with | true => rdO x fun x => .done x [] | false => rdO y fun y => .done y []) | _ => .fail) _ _ _ _
      rw [hs]
      have := e1q hb (0 ||| 2 ^ (2 * t))
      rw [Nat.zero_or] at this
      cases e
      . simpa using this
      . simpa using this
    have hsub : Sub (2 ^ (2 * t) ||| (opM (if e = true then x else y))) (b4m C.ops q.2 C.lim) := by
      have hop : e36 q.2 = ([.tmp t, x, y] : List Operand).filterMap fun | .tmp t => some t | _ => none := by
        unfold e36; rw [ho]; rfl
      intro i hi
      rw [Nat.testBit_or, Nat.testBit_two_pow] at hi
      simp only [Bool.or_eq_true, decide_eq_true_eq] at hi
      rcases hi with hi | hi
      . rw [<- hi]; exact c4w (by rw [hop]; simp)
      . unfold opM at hi
        split at hi
        . rename_i tt htt
          rw [Nat.testBit_two_pow] at hi
          simp only [decide_eq_true_eq] at hi
          rw [<- hi]
          refine c4w ?_
          rw [hop, List.mem_filterMap]
          refine ⟨.tmp tt, ?_, rfl⟩
          split at htt <;> simp [htt]
        . simp at hi
    cases hgd : q.2.guard with
    | none => exact ⟨_, ⟨hd.symm, .inr (by unfold gq; rw [hgd]; exact hev)⟩, hsub⟩
    | some gw =>
      obtain ⟨g, w⟩ := gw
      unfold okG at hg
      rw [hgd] at hg
      obtain ⟨cq, hcq, hc2⟩ := List.any_eq_true.1 hg
      simp only [Bool.and_eq_true, beq_iff_eq] at hc2
      obtain ⟨tg, htg, hsg⟩ := hctx cq hcq
      rw [Nat.eq_of_beq_eq_true hc2.1] at htg
      rw [hc2.2] at hsg
      refine ⟨2 ^ (2 * tg) ||| (2 ^ (2 * t) ||| (opM (if e = true then x else y))), ⟨hd.symm, .inr ?_⟩, ?_⟩
      . unfold gq
        rw [hgd]
        simp only [htg]
        refine ⟨c01 hsg, ?_⟩
        show Q.Ev σ (match σ.slot tg with | .bool b => (match b == w with | true => e0o q.2.op | false => .done .undef []) | .undef => .done .undef [] | _ => .fail) _ _ _ _
        rw [hsg]
        simp only [beq_self_eq_true]
        have := d88 (2 ^ (2 * tg)) hev
        simpa using this
      . intro i hi
        rw [Nat.testBit_or, Nat.testBit_two_pow] at hi
        simp only [Bool.or_eq_true, decide_eq_true_eq] at hi
        rcases hi with hi | hi
        . rw [<- hi]; exact b51 hgd htg
        . exact hsub i hi
  . cases hp
theorem e0w {C : RegC} {k : Nat} {g t : Nat} {want e : Bool} (hg : c0f C.ops g = some t) (hne : e ≠ want) : ∀ (os : List Oper) (j0 : Nat) (σ : U.St), k <= j0 -> σ.slot t = .bool e -> (∀ g', k <= g' -> g' < j0 -> ∃ t', c0f C.ops g' = some t' /\ σ.slot t' = .undef) -> (∀ j o, os[j]? = some o -> C.ops[j0 + j]? = some o) -> (∀ q ∈ a8x j0 os, b6z g want k q = true) -> e4w t (a8x j0 os) = true ->
    ∃ es σ', Tr P Φ C j0 os σ es σ' /\ (∀ e ∈ es, e.ws = []) /\ (∀ (j : Nat) (e : En U) (o : Oper), es[j]? = some e -> os[j]? = some o -> Sub e.m (b4m C.ops o C.lim)) /\ σ'.slot t = .bool e
  | [], j0, σ, _, hs, _, _, _, _ => ⟨[], σ, rfl, (fun e h => by cases h), (fun j e o h => by simp at h), hs⟩
  | o :: os, j0, σ, hk, hs, hu, hops, hin, hseg => by
    have hin0 := hin (j0, o) List.mem_cons_self
    unfold b6z at hin0
    have hseg0 : ∃ d, o.dst = some d /\ d ≠ t := by
      have := List.all_eq_true.1 hseg (j0, o) List.mem_cons_self
      cases hd : o.dst with
      | none => rw [hd] at this; cases this
      | some d =>
        rw [hd] at this
        refine ⟨d, rfl, fun he => ?_⟩
        rw [he] at this; simp at this
    obtain ⟨d, hd, hdt⟩ := hseg0
    cases hgd : o.guard with
    | none => rw [hgd] at hin0; cases hin0
    | some gw =>
      obtain ⟨g', w'⟩ := gw
      rw [hgd] at hin0
      simp only [Bool.or_eq_true, Bool.and_eq_true, beq_iff_eq] at hin0
      have hstep : ∃ m, (∀ q : U.Q, (gq C.ops o q).Ev σ 0 m .undef []) /\ Sub m (b4m C.ops o C.lim) := by
        rcases hin0 with ⟨h1, h2⟩ | ⟨h1, h2⟩
        . have h1 := Nat.eq_of_beq_eq_true h1
          subst h1
          refine ⟨0 ||| 2 ^ (2 * t), fun q => ?_, fun i hi => ?_⟩
          . unfold gq
            rw [hgd]
            simp only [hg]
            refine ⟨c01 hs, ?_⟩
            show Q.Ev σ (match σ.slot t with | .bool b => (match b == w' with | true => q | false => .done .undef []) | .undef => .done .undef [] | _ => .fail) _ _ _ _
            rw [hs, h2]
            have : (e == want) = false := by cases e <;> cases want <;> first | rfl | exact absurd rfl hne
            simp only [this]
            exact ⟨rfl, rfl, rfl⟩
          . rw [Nat.zero_or, Nat.testBit_two_pow] at hi
            simp only [decide_eq_true_eq] at hi
            rw [<- hi]; exact b51 hgd hg
        . have h1 := Nat.le_of_ble_eq_true h1
          have h2 : g' < j0 := by simpa [Nat.blt_eq] using h2
          obtain ⟨t', ht', hs'⟩ := hu g' h1 h2
          refine ⟨0 ||| 2 ^ (2 * t'), fun q => ?_, fun i hi => ?_⟩
          . unfold gq
            rw [hgd]
            simp only [ht']
            refine ⟨e2j hs', ?_⟩
            show Q.Ev σ (match σ.slot t' with | .bool b => (match b == w' with | true => q | false => .done .undef []) | .undef => .done .undef [] | _ => .fail) _ _ _ _
            rw [hs']
            exact ⟨rfl, rfl, rfl⟩
          . rw [Nat.zero_or, Nat.testBit_two_pow] at hi
            simp only [decide_eq_true_eq] at hi
            rw [<- hi]; exact b51 hgd ht'
      obtain ⟨m, hm, hsub⟩ := hstep
      have hops0 : C.ops[j0]? = some o := by simpa using hops 0 o rfl
      obtain ⟨es, σ', h1, h2, h3, h4⟩ := e0w hg hne os (j0 + 1) (σ.app o.dst .undef []) (by omega) (by rw [a3d, hd, if_neg (by simpa using hdt)]; exact hs)
        (fun g' hg1 hg2 => by
          rcases Nat.lt_or_ge g' j0 with hlt | hge
          . obtain ⟨t', ht', hs'⟩ := hu g' hg1 hlt
            refine ⟨t', ht', ?_⟩
            rw [a3d]; split
            . rfl
            . exact hs'
          . have : g' = j0 := by omega
            subst this
            refine ⟨d, by unfold c0f; rw [hops0]; exact hd, ?_⟩
            rw [a3d, if_pos hd])
        (fun j o' ho' => by have := hops (j + 1) o' (by simpa using ho'); rwa [show j0 + (j + 1) = j0 + 1 + j by omega] at this) (fun q hq => hin q (List.mem_cons_of_mem _ hq)) (by
          have := hseg
          unfold e4w at this ⊢
          rw [a8x, List.all_cons, Bool.and_eq_true] at this
          exact this.2)
      refine ⟨⟨o.dst, m, .undef, []⟩ :: es, σ', ⟨⟨rfl, .inl (hm _)⟩, h1⟩, fun e he => ?_, fun j e o' he ho' => ?_, h4⟩
      . rcases List.mem_cons.1 he with he | he
        . rw [he]
        . exact h2 e he
      . cases j with
        | zero => simp at he ho'; subst he; subst ho'; exact hsub
        | succ j => exact h3 j e o' (by simpa using he) (by simpa using ho')
end
end Go.SX
namespace Go.SX
open Go Go.PL
section
variable {P : Program} {U : Uni} {Φ : Phi U}
theorem b6n {o : Oper} {ws : List (Nat × U.MC)} : (∀ d, o.dst = some d -> (b71 o ws).testBit (2 * d) = true) /\ ∀ id m, lk id ws = some m -> (b71 o ws).testBit (2 * id + 1) = true := by
  have key : ∀ (ws : List (Nat × U.MC)) (m k : Nat), (m.testBit k = true \/ ∃ w ∈ ws, 2 * w.1 + 1 = k) -> (ws.foldl (fun m w => m ||| 2 ^ (2 * w.1 + 1)) m).testBit k = true := by
    intro ws
    induction ws with
    | nil =>
      intro m k h
      rcases h with h | ⟨w, hw, _⟩
      . exact h
      . cases hw
    | cons w ws ih =>
      intro m k h
      refine ih _ k ?_
      rw [a5m]
      rcases h with h | ⟨w', hw', h⟩
      . left; rw [h]; rfl
      . rcases List.mem_cons.1 hw' with e | e
        . left; rw [<- h, e]; simp
        . exact .inr ⟨w', e, h⟩
  refine ⟨fun d hd => key ws _ _ (.inl ?_), fun id m hl => key ws _ _ (.inr ⟨_, a98 hl, rfl⟩)⟩
  unfold f3b
  rw [hd]
  simp
theorem d8p {o : Oper} {d : Nat} (hd : o.dst = some d) : (f3b o).testBit (2 * d) = true := by
  unfold f3b; rw [hd]; simp
def b9p (P : Program) (Φ : Phi U) (C : RegC) {R : Type} (k : Nat) (os : List Oper) (ctx : List (Nat × Bool)) (hist : List (Nat × Nat × Nat)) (σ0 σx : U.St) (K : List (Nat × Nat × Nat) -> U.St -> Option R) (r : R) : Prop :=
  ∃ es σx' σe' hist', Tr P Φ C k os σx es σx' /\ d4v σe' σx' /\ b6y C ctx σx' /\ K hist' σe' = some r /\ d7p C ctx k os es hist hist' /\ ∀ t, (∀ o ∈ os, o.dst ≠ some t) -> σe'.slot t = σ0.slot t
theorem b9p.cons {C : RegC} {R : Type} {k : Nat} {o : Oper} {os : List Oper} {ctx : List (Nat × Bool)} {h0 h1 : List (Nat × Nat × Nat)} {σ0 σx : U.St} {v0 : U.AV} {w0 : List (Nat × U.MC)} {K : List (Nat × Nat × Nat) -> U.St -> Option R} {r : R} {e : En U}
    (hs : c35 P Φ C k o σx e) (hl : d7p C ctx k [o] [e] h0 h1) (h : b9p P Φ C (k + 1) os ctx h1 (σ0.app o.dst v0 w0) (σx.app e.d e.v e.ws) K r) : b9p P Φ C k (o :: os) ctx h0 σ0 σx K r := by
  obtain ⟨es, σx', σe', hist', g1, g2, g3, g4, g5, g6⟩ := h
  refine ⟨e :: es, σx', σe', hist', ⟨hs, g1⟩, g2, g3, g4, d7p.append (os := [o]) (es := [e]) rfl hl g5, fun t ht => ?_⟩
  rw [g6 t fun o' ho' => ht o' (List.mem_cons_of_mem _ ho'), a3d, if_neg (ht o List.mem_cons_self)]
theorem b9p.append {C : RegC} {R : Type} {k : Nat} {os os' : List Oper} {ctx : List (Nat × Bool)} {h0 h1 : List (Nat × Nat × Nat)} {σ0 σ2 σx σ1 : U.St} {K : List (Nat × Nat × Nat) -> U.St -> Option R} {r : R} {es : List (En U)}
    (ht : Tr P Φ C k os σx es σ1) (hl : d7p C ctx k os es h0 h1) (hk : ∀ t, (∀ o ∈ os, o.dst ≠ some t) -> σ2.slot t = σ0.slot t) (h : b9p P Φ C (k + os.length) os' ctx h1 σ2 σ1 K r) : b9p P Φ C k (os ++ os') ctx h0 σ0 σx K r := by
  obtain ⟨es', σx', σe', hist', g1, g2, g3, g4, g5, g6⟩ := h
  exact ⟨es ++ es', σx', σe', hist', ht.append g1, g2, g3, g4, d7p.append ht.len hl g5, fun t ht' => (g6 t fun o ho => ht' o (List.mem_append_right _ ho)).trans (hk t fun o ho => ht' o (List.mem_append_left _ ho))⟩
theorem f1s {C : RegC} {ctx : List (Nat × Bool)} {σ : U.St} {o : Oper} (hg : okG ctx o = true) (hctx : b6y C ctx σ) {q : U.Q} {m : Nat} {v : U.AV} {ws : List (Nat × U.MC)} (hev : q.Ev σ 0 m v ws) :
    ∃ m', (gq C.ops o q).Ev σ 0 m' v ws /\ (Sub m (b4m C.ops o C.lim) -> Sub m' (b4m C.ops o C.lim)) /\ (ctx = [] -> m' = m) := by
  cases hgd : o.guard with
  | none => exact ⟨m, by unfold gq; rw [hgd]; exact hev, fun h => h, fun _ => rfl⟩
  | some gw =>
    obtain ⟨g, w⟩ := gw
    unfold okG at hg
    rw [hgd] at hg
    obtain ⟨cq, hcq, hc2⟩ := List.any_eq_true.1 hg
    simp only [Bool.and_eq_true, beq_iff_eq] at hc2
    obtain ⟨tg, htg, hsg⟩ := hctx cq hcq
    rw [Nat.eq_of_beq_eq_true hc2.1] at htg
    rw [hc2.2] at hsg
    refine ⟨2 ^ (2 * tg) ||| m, ?_, fun hs => ?_, fun h => by rw [h] at hcq; cases hcq⟩
    . unfold gq
      rw [hgd]
      simp only [htg]
      refine ⟨c01 hsg, ?_⟩
      show Q.Ev σ (match σ.slot tg with | .bool b => (match b == w with | true => q | false => .done .undef []) | .undef => .done .undef [] | _ => .fail) _ _ _ _
      rw [hsg]
      simp only [beq_self_eq_true]
      have := d88 (2 ^ (2 * tg)) hev
      simpa using this
    . intro i hi
      rw [Nat.testBit_or, Nat.testBit_two_pow] at hi
      simp only [Bool.or_eq_true, decide_eq_true_eq] at hi
      rcases hi with hi | hi
      . rw [<- hi]; exact b51 hgd htg
      . exact hs i hi
theorem b6y.nil {C : RegC} {σ : U.St} : b6y C [] σ := fun q h => by cases h
theorem e3o {C : RegC} {ctx : List (Nat × Bool)} {σ σ1 : U.St} {os : List Oper} {k : Nat} (h : b6y C ctx σ) (hk : ∀ q ∈ a8x k os, c7h C ctx q.2.dst = true) (hs : ∀ t, (∀ o ∈ os, o.dst ≠ some t) -> σ1.slot t = σ.slot t) : b6y C ctx σ1 := by
  intro q hq
  obtain ⟨t, ht, hst⟩ := h q hq
  refine ⟨t, ht, ?_⟩
  rw [hs t fun o ho hd => ?_]
  . exact hst
  . obtain ⟨j, hj⟩ := List.getElem?_of_mem ho
    have hm : (k + j, o) ∈ a8x k os := List.mem_of_getElem? (c1l os k j o hj)
    have h1 := hk _ hm
    unfold c7h at h1
    rw [hd] at h1
    have h2 := List.all_eq_true.1 h1 q hq
    rw [ht] at h2
    simp at h2
theorem e1w {C : RegC} {k : Nat} {os : List Oper} {es : List (En U)} {σ σ1 : U.St} (ht : Tr P Φ C k os σ es σ1) (hw : ∀ (j : Nat) (e : En U) (o : Oper), es[j]? = some e -> os[j]? = some o -> e.ws = [] /\ Sub e.m (b4m C.ops o C.lim)) :
    ∀ (j : Nat) (e : En U) (g : Nat × Nat × Nat), es[j]? = some e -> (c4a C (a8x k os))[j]? = some g -> g.1 = k + j /\ Sub e.m g.2.1 /\ f5g e g.2.2 := by
  induction os generalizing k es σ with
  | nil => intro j e g he hg; simp [c4a, a8x] at hg
  | cons o os ih =>
    cases es with
    | nil => exact ht.elim
    | cons e0 es =>
      intro j e g he hg
      cases j with
      | zero =>
        simp [c4a, a8x] at he hg
        subst he; subst hg
        obtain ⟨h1, h2⟩ := hw 0 e0 o rfl rfl
        refine ⟨rfl, h2, fun d hd => ?_, fun id m hl => by rw [h1] at hl; cases hl⟩
        rw [ht.1.1] at hd
        exact d8p hd
      | succ j =>
        obtain ⟨h1, h2, h3⟩ := ih ht.2 (fun j e o he ho => hw (j + 1) e o (by simpa using he) (by simpa using ho)) j e g (by simpa using he) (by simpa [c4a, a8x] using hg)
        exact ⟨by omega, h2, h3⟩
theorem c2t : ∀ (a b : List Oper) (k : Nat), a8x k (a ++ b) = a8x k a ++ a8x (k + a.length) b
  | [], b, k => rfl
  | x :: a, b, k => by simp only [List.cons_append, a8x, c2t a b (k + 1), List.length_cons, show k + 1 + a.length = k + (a.length + 1) by omega]
theorem d41 : ∀ (os : List Oper) (k : Nat), (a8x k os).length = os.length
  | [], _ => rfl
  | _ :: os, k => by simp [a8x, d41 os]
theorem a6n {C : RegC} {R : Type} : ∀ (n k : Nat) (os : List Oper) (ctx : List (Nat × Bool)) (hist : List (Nat × Nat × Nat)) (σe : U.St) (K : List (Nat × Nat × Nat) -> U.St -> Option R) (r : R), b1f P Φ C n (a8x k os) ctx hist σe K = some r -> (∀ (j : Nat) (o : Oper), os[j]? = some o -> C.ops[k + j]? = some o) ->
    ∀ σx, d4v σe σx -> b6y C ctx σx -> b9p P Φ C k os ctx hist σe σx K r
  | 0, _, _, _, _, _, _, _, h, _, _, _, _ => by cases h
  | n + 1, k, [], ctx, hist, σe, K, r, h, _, σx, hl, hc => by
    refine ⟨[], σx, σe, hist, rfl, hl, hc, h, ?_⟩
    cases ctx with
    | nil => exact ⟨⟨[], rfl, fun _ => rfl, rfl, fun j e g he => by simp at he⟩, fun _ _ => rfl⟩
    | cons _ _ => exact ⟨⟨rfl, fun j e o he => by simp at he⟩, fun _ _ => rfl⟩
  | n + 1, k, o :: os, ctx, hist, σe, K, r, h, hops, σx, hless, hctx => by
    have hops1 : ∀ (j : Nat) (o' : Oper), os[j]? = some o' -> C.ops[k + 1 + j]? = some o' := fun j o' ho' => by
      have := hops (j + 1) o' (by simpa using ho')
      rwa [show k + (j + 1) = k + 1 + j by omega] at this
    simp only [a8x, b1f] at h
    cases hsp : (spG C o || C.sp.any (Nat.beq k)) && ctx.isEmpty with
    | true =>
      rw [hsp] at h
      dsimp only at h
      simp only [Bool.and_eq_true, List.isEmpty_iff] at hsp
      have hcn := hsp.2
      subst hcn
      obtain ⟨m, v, ws, hev, h⟩ := c8j h
      have hst : c35 P Φ C k o σx ⟨o.dst, m, v, ws⟩ := by
        refine ⟨rfl, ?_⟩
        have hev := hless.ev hev
        cases hp : e7f o.op with
        | true => rw [hp] at hev; exact .inr hev
        | false => rw [hp] at hev; exact .inl hev
      cases hc : !C.draw || d1p (C.bef.getD k 0) m (b71 o ws) hist with
      | false => rw [hc] at h; cases h
      | true =>
        rw [hc] at h
        dsimp only at h
        have hlg : d7p C [] k [o] [(⟨o.dst, m, v, ws⟩ : En U)] hist ((k, m, b71 o ws) :: hist) := by
          refine ⟨[(k, m, b71 o ws)], rfl, fun hd => ?_, rfl, fun j e g he hg => ?_⟩
          . rw [hd] at hc
            simp only [b1p, Bool.and_true]
            simpa using hc
          . cases j with
            | zero =>
              simp at he hg
              subst he; subst hg
              exact ⟨rfl, fun _ h => h, b6n.1, b6n.2⟩
            | succ j => simp at he
        have fin : ∀ σ' : U.St, (∀ t, σ'.slot t = .unk \/ (σe.app o.dst v ws).slot t = σ'.slot t) -> (∀ id, σ'.mem id = (σe.app o.dst v ws).mem id) -> (∀ t, o.dst ≠ some t -> σ'.slot t = (σe.app o.dst v ws).slot t) -> b1f P Φ C n (a8x (k + 1) os) [] ((k, m, b71 o ws) :: hist) σ' K = some r -> b9p P Φ C k (o :: os) [] hist σe σx K r := by
          intro σ' hs1 hs2 hs3 h
          have hless' : d4v σ' (σx.app o.dst v ws) := by
            have h0 := hless.app o.dst v ws
            refine ⟨fun t => ?_, fun id => by rw [h0.2 id, hs2 id]⟩
            rcases hs1 t with h1 | h1
            . exact .inl h1
            . rcases h0.1 t with h2 | h2
              . left; rw [<- h1]; exact h2
              . right; rw [h2, h1]
          obtain ⟨es, σx', σe', hist', g1, g2, g3, g4, g5, g6⟩ := a6n n (k + 1) os [] _ _ K r h hops1 _ hless' b6y.nil
          refine ⟨⟨o.dst, m, v, ws⟩ :: es, σx', σe', hist', ⟨hst, g1⟩, g2, g3, g4, d7p.append (os := [o]) (es := [⟨o.dst, m, v, ws⟩]) rfl hlg g5, fun t ht => ?_⟩
          rw [g6 t fun o' ho' => ht o' (List.mem_cons_of_mem _ ho'), hs3 t (ht o List.mem_cons_self), a3d, if_neg (ht o List.mem_cons_self)]
        have self : b1f P Φ C n (a8x (k + 1) os) [] ((k, m, b71 o ws) :: hist) (σe.app o.dst v ws) K = some r -> b9p P Φ C k (o :: os) [] hist σe σx K r :=
          fun h => fin _ (fun t => .inr rfl) (fun _ => rfl) (fun _ _ => rfl) h
        split at h
        . unfold e5l at h
          split at h
          . rename_i t hdt
            have put : ∀ b : Bool, (σe.app o.dst v ws).slot t = .bool b -> b1f P Φ C n (a8x (k + 1) os) [] ((k, m, b71 o ws) :: hist) ((σe.app o.dst v ws).put (some t) (.bool b)) K = some r -> b9p P Φ C k (o :: os) [] hist σe σx K r := by
              intro b hb h
              have e : ∀ t', ((σe.app o.dst v ws).put (some t) (.bool b)).slot t' = if some t = some t' then .bool b else (σe.app o.dst v ws).slot t' := fun t' => a3d (σe.app o.dst v ws) (some t) (.bool b) [] t'
              refine fin ((σe.app o.dst v ws).put (some t) (.bool b)) (fun t' => ?_) (fun id => rfl) (fun t' ht' => ?_) h
              . right
                rw [e]
                split
                . rename_i e'; cases e'; exact hb
                . rfl
              . rw [e, if_neg]
                rw [hdt] at ht'; exact ht'
            split at h
            . rename_i e he
              cases e with
              | true => exact put true he (by simpa using h)
              | false => exact put false he (by simpa using h)
            . exact self h
            . cases h
          . cases h
        . exact self h
    | false =>
    rw [hsp] at h
    dsimp only at h
    clear hsp
    cases hg : okG ctx o with
    | true =>
      rw [hg] at h
      dsimp only at h
      obtain ⟨m, v, ws, hev, h⟩ := c8j h
      obtain ⟨m', hgq, hsub, hm'⟩ := f1s hg hctx (hless.ev hev)
      cases ctx with
      | nil =>
        dsimp only at h
        cases hc : !C.draw || d1p (C.bef.getD k 0) m (b71 o ws) hist with
        | false => rw [hc] at h; cases h
        | true =>
          rw [hc] at h
          dsimp only at h
          have hmm := hm' rfl
          subst hmm
          refine b9p.cons (e := ⟨o.dst, m', v, ws⟩) (h1 := (k, m', b71 o ws) :: hist) ⟨rfl, .inl hgq⟩ ⟨[(k, m', b71 o ws)], rfl, fun hd => ?_, rfl, fun j e g he hg => ?_⟩ (a6n n (k + 1) os [] _ _ K r h hops1 _ (hless.app _ _ _) b6y.nil)
          . rw [hd] at hc
            simp only [b1p, Bool.and_true]
            simpa using hc
          . cases j with
            | zero =>
              simp at he hg
              subst he; subst hg
              exact ⟨rfl, fun _ h => h, b6n.1, b6n.2⟩
            | succ j => simp at he
      | cons c ctx =>
        dsimp only at h
        cases ws with
        | cons _ _ => cases h
        | nil =>
          dsimp only at h
          cases hc : c7h C (c :: ctx) o.dst && f6n m (b4m C.ops o C.lim) with
          | false => rw [hc] at h; cases h
          | true =>
            rw [hc] at h
            dsimp only at h
            simp only [Bool.and_eq_true] at hc
            refine b9p.cons (e := ⟨o.dst, m', v, []⟩) (h1 := hist) ⟨rfl, .inl hgq⟩ ⟨rfl, fun j e o' he ho' => ?_⟩ (a6n n (k + 1) os (c :: ctx) _ _ K r h hops1 _ (hless.app _ _ _) (hctx.app hc.1))
            cases j with
            | zero =>
              simp at he ho'
              subst he; subst ho'
              exact ⟨rfl, hsub (d7t hc.2)⟩
            | succ j => simp at he
    | false =>
      rw [hg] at h
      dsimp only at h
      cases hgd : o.guard with
      | none => rw [hgd] at h; cases h
      | some gw =>
        obtain ⟨g, want⟩ := gw
        rw [hgd] at h
        dsimp only at h
        cases hgs : c0f C.ops g with
        | none => rw [hgs] at h; cases h
        | some t =>
          rw [hgs] at h
          dsimp only at h
          cases hst : σe.slot t <;> rw [hst] at h <;> try (cases h; done)
          rename_i e
          dsimp only at h
          obtain ⟨os1, os2, hos, htk, hdr, hin⟩ := c4q (o :: os) k (b6z g want k)
          have htk : ((k, o) :: a8x (k + 1) os).takeWhile (b6z g want k) = a8x k os1 := htk
          have hdr : ((k, o) :: a8x (k + 1) os).dropWhile (b6z g want k) = a8x (k + os1.length) os2 := hdr
          rw [htk, hdr] at h
          cases os2 with
          | nil => cases h
          | cons op os2 =>
            simp only [a8x] at h
            cases hp : c9f (k + os1.length, op) with
            | none => rw [hp] at h; cases h
            | some dt =>
              obtain ⟨d, t', x, y⟩ := dt
              rw [hp] at h
              dsimp only at h
              cases hc : Nat.beq t' t && okG ctx op && c7h C ctx (some d) && e4w t (a8x k os1) && ((a8x k os1).all fun q => c7h C ctx q.2.dst) with
              | false => rw [hc] at h; cases h
              | true =>
                rw [hc] at h
                dsimp only at h
                simp only [Bool.and_eq_true] at hc
                obtain ⟨⟨⟨⟨hc1, hc2⟩, hc3⟩, hc4⟩, hc5⟩ := hc
                have hc1 := Nat.eq_of_beq_eq_true hc1
                subst hc1
                obtain ⟨c, hcv, h⟩ := f4r h
                have hsx : σx.slot t' = .bool e := by rw [(hless.1 t').resolve_left (c01 hst)]; exact hst
                have hops0 : ∀ (j : Nat) (o' : Oper), os1[j]? = some o' -> C.ops[k + j]? = some o' := fun j o' ho' => hops j o' (by rw [hos, List.getElem?_append_left (List.getElem?_eq_some_iff.1 ho').1]; exact ho')
                have hops2 : ∀ (j : Nat) (o' : Oper), os2[j]? = some o' -> C.ops[k + os1.length + 1 + j]? = some o' := fun j o' ho' => by
                  have := hops (os1.length + 1 + j) o' (by rw [hos, List.getElem?_append_right (by omega), show os1.length + 1 + j - os1.length = j + 1 by omega]; simpa using ho')
                  rwa [show k + (os1.length + 1 + j) = k + os1.length + 1 + j by omega] at this
                have hseg : ∃ es σ1, Tr P Φ C k os1 σx es σ1 /\ (∀ (j : Nat) (e : En U) (o : Oper), es[j]? = some e -> os1[j]? = some o -> e.ws = [] /\ Sub e.m (b4m C.ops o C.lim)) /\ (∀ e ∈ es, e.ws = []) /\ σ1.slot t' = .bool e /\ b5l σ1 (if e = true then x else y) = some c := by
                  have run : ∀ (z : Operand), e = want -> (if e = true then x else y) = z -> b1f P Φ C n (a8x k os1) ((g, want) :: ctx) hist σe (fun _ σ' => b5l σ' z) = some c -> ∃ es σ1, Tr P Φ C k os1 σx es σ1 /\ (∀ (j : Nat) (e : En U) (o : Oper), es[j]? = some e -> os1[j]? = some o -> e.ws = [] /\ Sub e.m (b4m C.ops o C.lim)) /\ (∀ e ∈ es, e.ws = []) /\ σ1.slot t' = .bool e /\ b5l σ1 (if e = true then x else y) = some c := by
                    intro z hew hz hr
                    obtain ⟨es, σ1, σe1, hist1, g1, g2, g3, g4, g5, _⟩ := a6n n k os1 ((g, want) :: ctx) hist σe _ c hr hops0 σx hless (fun q hq => by
                      rcases List.mem_cons.1 hq with e' | e'
                      . rw [e']; exact ⟨t', hgs, by rw [hsx, hew]⟩
                      . exact hctx q e')
                    obtain ⟨tt, ht1, ht2⟩ := g3 (g, want) List.mem_cons_self
                    rw [hgs] at ht1
                    cases ht1
                    refine ⟨es, σ1, g1, g5.2, fun e he => ?_, by rw [hew]; exact ht2, by rw [hz]; exact c57 g2 g4⟩
                    obtain ⟨j, hj⟩ := List.getElem?_of_mem he
                    have hlt : j < os1.length := by rw [<- g1.len]; exact (List.getElem?_eq_some_iff.1 hj).1
                    exact (g5.2 j e _ hj (List.getElem?_eq_getElem hlt)).1
                  have skip : ∀ (z : Operand), e ≠ want -> (if e = true then x else y) = z -> b5l (b06 σe (a8x k os1)) z = some c -> ∃ es σ1, Tr P Φ C k os1 σx es σ1 /\ (∀ (j : Nat) (e : En U) (o : Oper), es[j]? = some e -> os1[j]? = some o -> e.ws = [] /\ Sub e.m (b4m C.ops o C.lim)) /\ (∀ e ∈ es, e.ws = []) /\ σ1.slot t' = .bool e /\ b5l σ1 (if e = true then x else y) = some c := by
                    intro z hew hz hr
                    obtain ⟨es, σ1, g1, g2, g3, g4⟩ := e0w (P := P) (Φ := Φ) (C := C) (k := k) hgs hew os1 k σx (Nat.le_refl _) hsx (fun g' h1 h2 => by omega) hops0 hin hc4
                    obtain ⟨k1, k2⟩ := d1v g1 g2
                    refine ⟨es, σ1, g1, fun j e o he ho => ⟨g2 e (List.mem_of_getElem? he), g3 j e o he ho⟩, g2, g4, ?_⟩
                    rw [hz]
                    refine c57 (σ := b06 σe (a8x k os1)) ⟨fun tt => ?_, fun id => ?_⟩ hr
                    . rcases b89 (a8x k os1) σe tt with h1 | ⟨h1, h2⟩
                      . exact .inl h1
                      . rw [h1]
                        rcases hless.1 tt with h3 | h3
                        . exact .inl h3
                        . right
                          rw [k2 tt fun o ho hd => ?_]
                          . exact h3
                          . obtain ⟨j, hj⟩ := List.getElem?_of_mem ho
                            exact h2 _ (List.mem_of_getElem? (c1l os1 k j o hj)) hd
                    . rw [k1 id, c07, hless.2 id]
                  cases want with
                  | true =>
                    dsimp only at hcv
                    cases e with
                    | true => exact run x rfl rfl (by simpa using hcv)
                    | false => exact skip y (by simp) rfl (by simpa using hcv)
                  | false =>
                    dsimp only at hcv
                    cases e with
                    | true => exact skip x (by simp) rfl (by simpa using hcv)
                    | false => exact run y rfl rfl (by simpa using hcv)
                obtain ⟨es, σ1, g1, g2, g3, g4, g5⟩ := hseg
                obtain ⟨k1, k2⟩ := d1v g1 g3
                have hctx1 : b6y C ctx σ1 := e3o hctx (fun q hq => List.all_eq_true.1 hc5 q hq) k2
                obtain ⟨mp, hstep, hmsub⟩ := d99 (P := P) (Φ := Φ) (C := C) hp hc2 hctx1 g4 g5
                have hless1 : d4v ((b06 σe (a8x k os1)).put (some d) (.bool c)) (σ1.app (some d) (.bool c) []) := by
                  refine d4v.app (σ := b06 σe (a8x k os1)) (σ' := σ1) ⟨fun tt => ?_, fun id => ?_⟩ (some d) (.bool c) []
                  . rcases b89 (a8x k os1) σe tt with h1 | ⟨h1, h2⟩
                    . exact .inl h1
                    . rw [h1]
                      rcases hless.1 tt with h3 | h3
                      . exact .inl h3
                      . right
                        rw [k2 tt fun o ho hd => ?_]
                        . exact h3
                        . obtain ⟨j, hj⟩ := List.getElem?_of_mem ho
                          exact h2 _ (List.mem_of_getElem? (c1l os1 k j o hj)) hd
                  . rw [k1 id, c07, hless.2 id]
                have hdst : op.dst = some d := by
                  unfold c9f at hp
                  split at hp
                  . rename_i hd _; cases hp; exact hd
                  . cases hp
                rw [hos]
                have hTr2 : Tr P Φ C k (os1 ++ [op]) σx (es ++ [⟨some d, mp, .bool c, []⟩]) (σ1.app (some d) (.bool c) []) := g1.append ⟨hstep, rfl⟩
                have hlg2 : ∀ (j : Nat) (e : En U) (o : Oper), (es ++ [(⟨some d, mp, .bool c, []⟩ : En U)])[j]? = some e -> (os1 ++ [op])[j]? = some o -> e.ws = [] /\ Sub e.m (b4m C.ops o C.lim) := by
                  intro j e o he ho
                  rcases q8 he with ⟨hj, he⟩ | ⟨hj, he⟩
                  . rcases q8 ho with ⟨hj', ho⟩ | ⟨hj', ho⟩
                    . exact g2 j e o he ho
                    . have := g1.len; omega
                  . rcases q8 ho with ⟨hj', ho⟩ | ⟨hj', ho⟩
                    . have := g1.len; omega
                    . have hlen := g1.len
                      rw [hlen] at he
                      cases hjj : j - os1.length with
                      | zero =>
                        rw [hjj] at he ho
                        simp at he ho
                        subst he; subst ho
                        exact ⟨rfl, hmsub⟩
                      | succ q => rw [hjj] at he; simp at he
                rw [show os1 ++ op :: os2 = (os1 ++ [op]) ++ os2 by simp]
                have hkeep : ∀ t, (∀ o ∈ os1 ++ [op], o.dst ≠ some t) -> ((b06 σe (a8x k os1)).put (some d) (.bool c)).slot t = σe.slot t := fun t ht => by
                  have e : ((b06 σe (a8x k os1)).put (some d) (.bool c)).slot t = if some d = some t then .bool c else (b06 σe (a8x k os1)).slot t := a3d (b06 σe (a8x k os1)) (some d) (.bool c) [] t
                  rw [e, if_neg, c2y]
                  . intro q hq
                    obtain ⟨j, _, hj⟩ := d2a hq
                    exact ht q.2 (List.mem_append_left _ (List.mem_of_getElem? hj))
                  . rw [<- hdst]; exact ht op (by simp)
                cases ctx with
                | nil =>
                  dsimp only at h
                  cases hol : !C.draw || b1p C (c4a C (a8x k os1 ++ [(k + os1.length, op)])) hist with
                  | false => rw [hol] at h; cases h
                  | true =>
                    rw [hol] at h
                    dsimp only at h
                    refine b9p.append (h1 := (c4a C (a8x k os1 ++ [(k + os1.length, op)])).reverse ++ hist) hTr2 ⟨c4a C (a8x k os1 ++ [(k + os1.length, op)]), rfl, fun hd => ?_, ?_, fun j e g he hg => ?_⟩ hkeep ?_
                    . rw [hd] at hol; simpa using hol
                    . have := g1.len
                      simp [c4a, d41, this]
                    . have he2 : a8x k os1 ++ [(k + os1.length, op)] = a8x k (os1 ++ [op]) := by rw [c2t]; rfl
                      rw [he2] at hg
                      exact e1w hTr2 hlg2 j e g he hg
                    . have := a6n n (k + os1.length + 1) os2 [] _ _ K r h hops2 _ hless1 b6y.nil
                      simpa [Nat.add_assoc] using this
                | cons c0 ctx =>
                  dsimp only at h
                  refine b9p.append (h1 := hist) hTr2 ⟨rfl, hlg2⟩ hkeep ?_
                  have := a6n n (k + os1.length + 1) os2 (c0 :: ctx) _ _ K r h hops2 _ hless1 (hctx1.app hc3)
                  simpa [Nat.add_assoc] using this
end
end Go.SX
namespace Go.SX
open Go Go.PL
section
variable {P : Program} {U : Uni} {Φ : Phi U} {E : Env} {n : Nat} {ops : List Oper}
theorem Rel.congr {Z : Nat -> Prop} {π : Nat -> Value} {σ σ' : U.St} {ρ : Nat -> Value} {w : World} (h : Rel E Z π σ ρ w) (hl : d4v σ' σ) : Rel E Z π σ' ρ w := by
  have hcx : cx Z π σ' w = cx Z π σ w := by
    unfold cx; congr 1; funext id
    unfold b8q; rw [hl.2 id]
  refine ⟨fun t => ?_, fun id => ?_, fun id b hb => ?_, fun id id' b hne hb hb' => ?_, h.zlt, h.zin, h.zout, h.ext, fun id hp => ⟨by
    have := (h.pin id hp).1
    unfold b8q at this ⊢; rwa [<- hl.2 id], (h.pin id hp).2⟩, h.tab⟩
  . rw [hcx]
    rcases hl.1 t with h1 | h1
    . rw [h1]; trivial
    . rw [<- h1]; exact h.slot t
  . rw [hcx, <- hl.2 id]; exact h.mem id
  . rw [<- hl.2 id] at hb; exact h.own id b hb
  . rw [<- hl.2 id] at hb; rw [<- hl.2 id'] at hb'; exact h.dist id id' b hne hb hb'
theorem e19 {Z : Nat -> Prop} {π : Nat -> Value} {σ : U.St} {ρ : Nat -> Value} {w : World} (h : Rel E Z π σ ρ w) {o : Oper} {m0 m : Nat} {v : U.AV} {ws : List (Nat × U.MC)} (hev : (e0o o.op : U.Q).Ev σ m0 m v ws) : a78 P E σ ρ w o v ws := by
  obtain ⟨d, op, ty, ps, af, g⟩ := o
  cases op <;> try exact hev.elim
  rename_i c a b
  obtain ⟨e, m1, he, hev⟩ := a1k h hev
  cases e <;> try exact hev.elim
  rename_i e
  cases e with
  | true =>
    obtain ⟨x, m2, hx, hm, rfl, rfl⟩ := a1k h hev
    exact m7 h (d38 he rfl) hx
  | false =>
    obtain ⟨x, m2, hx, hm, rfl, rfl⟩ := a1k h hev
    exact m7 h (d3h he rfl) hx
theorem e15 (hU : UOK U) (hΦ : OKΦ P Φ) (hT : Plan.okTmps ops n = true) (hS : Plan.okSel ops = true) {C : RegC} (hC : C.ops = ops) {i : Nat} {o : Oper} (ho : ops[i]? = some o) {Z : Nat -> Prop} {π : Nat -> Value} {σ : U.St} {ρ : Nat -> Value} {w : World} (h : Rel E Z π σ ρ w) {e : En U} (hs : c35 P Φ C i o σ e)
    {Q : Exit -> Act -> World -> Prop} {K : Act -> World -> Prop} (hK : ∀ Z' π' u w', Rel E Z' π' (σ.app e.d e.v e.ws) (c8p ρ e.d u) w' -> K (Fr n (c8p ρ e.d u)) w') : wpOp P ops.toArray Q i K (Fr n ρ) w := by
  obtain ⟨hd, hs⟩ := hs
  have hboth : ∃ q : U.Q, (gq C.ops o q).Ev σ 0 e.m e.v e.ws /\ ∀ m0, q.Ev σ m0 e.m e.v e.ws -> a78 P E σ ρ w o e.v e.ws := by
    rcases hs with hs | hs
    . exact ⟨_, hs, fun m0 hh => e1z hU hΦ h hh⟩
    . exact ⟨_, hs, fun m0 hh => e19 h hh⟩
  obtain ⟨q, hq, hgood⟩ := hboth
  unfold wpOp
  simp only [List.getElem?_toArray, ho]
  have hw : Region.wanted o (yielded ops.toArray (Fr n ρ).tmps) = Region.wanted o (yl ops ρ) := by
    congr 1
    funext g
    exact d5o hT ρ g
  rw [hw]
  have hdo : a78 P E σ ρ w o e.v e.ws -> o.wp P (Fr n ρ) w K Q := fun hg => by
    refine a6r.wp (K := fun v w' => ∃ Z' π', Rel E Z' π' (σ.app o.dst e.v e.ws) (c8p ρ o.dst v) w') ?_ ?_
    . unfold a78 a6r at hg
      unfold a6r
      rwa [e0e hT hS ho ρ]
    . rintro v w' ⟨Z', π', hR⟩
      rw [e6s]
      rw [<- hd] at hR ⊢
      exact hK Z' π' _ w' hR
  have hskip : e.v = .undef -> e.ws = [] -> K ((Fr n ρ).put o.dst undef) w := fun h1 h2 => by
    rw [e6s]
    have hR := h.val (d := o.dst) (a := .undef) (v := undef) (Ext.refl noG w) rfl
    rw [<- hd] at hR ⊢
    refine hK Z π _ w ?_
    rw [h1, h2]; exact hR
  unfold gq at hq
  cases hgd : o.guard with
  | none =>
    rw [hgd] at hq
    rw [if_pos (by simp [Region.wanted, hgd])]
    exact .inl (hdo (hgood _ hq))
  | some gw =>
    obtain ⟨g, want⟩ := gw
    rw [hgd] at hq
    dsimp only at hq
    cases hgs : c0f C.ops g with
    | none => rw [hgs] at hq; exact hq.elim
    | some t =>
      rw [hgs] at hq
      have hbd : (ops[g]?).bind (·.dst) = some t := by
        unfold c0f at hgs
        rw [hC] at hgs
        cases hx : ops[g]? with
        | none => rw [hx] at hgs; cases hgs
        | some og => rw [hx] at hgs; simpa using hgs
      have hq : SX.Q.Ev σ (match σ.slot t with | .bool b => (match b == want with | true => q | false => .done .undef []) | .undef => .done .undef [] | _ => .fail) (0 ||| 2 ^ (2 * t)) e.m e.v e.ws := hq.2
      have hslot := h.slot t
      cases hst : σ.slot t <;> rw [hst] at hq hslot <;> try exact hq.elim
      . -- the guard's operation was passed over itself
        obtain ⟨_, h1, h2⟩ := hq
        have hslot : ρ t = undef := hslot
        rw [if_neg]
        . exact hskip h1 h2
        . simp [Region.wanted, hgd, yl, hbd, hslot, undef]
      . rename_i b
        have hslot : ρ t = .bool b := hslot
        cases hb : b == want with
        | true =>
          have hq2 : q.Ev σ (0 ||| 2 ^ (2 * t)) e.m e.v e.ws := by
            have := hq
            simp only [hb] at this
            exact this
          rw [if_pos]
          . exact .inl (hdo (hgood _ hq2))
          . have : b = want := by simpa using hb
            simp [Region.wanted, hgd, yl, hbd, hslot, this]
        | false =>
          have hq2 : (.done .undef [] : U.Q).Ev σ (0 ||| 2 ^ (2 * t)) e.m e.v e.ws := by
            have := hq
            simp only [hb] at this
            exact this
          obtain ⟨_, h1, h2⟩ := hq2
          rw [if_neg]
          . exact hskip h1 h2
          . have : b ≠ want := by intro e'; rw [e'] at hb; simp at hb
            simp [Region.wanted, hgd, yl, hbd, hslot, this]
theorem d2c (hU : UOK U) (hΦ : OKΦ P Φ) (hT : Plan.okTmps ops n = true) (hS : Plan.okSel ops = true) {C : RegC} (hC : C.ops = ops) {Q : Exit -> Act -> World -> Prop} : ∀ (os : List Oper) (k : Nat) (σ σ' : U.St) (es : List (En U)), Tr P Φ C k os σ es σ' -> (∀ (j : Nat) o, os[j]? = some o -> ops[k + j]? = some o) ->
    ∀ ρ0 : Nat -> Value, (∀ Z π ρ w, (∀ t, (∀ o ∈ ops, o.dst ≠ some t) -> ρ t = ρ0 t) -> Rel E Z π σ' ρ w -> Q .normal (Fr n ρ) w) -> ∀ Z π ρ w, (∀ t, (∀ o ∈ ops, o.dst ≠ some t) -> ρ t = ρ0 t) -> Rel E Z π σ ρ w -> wpOps P ops.toArray Q (List.range' k os.length) (Fr n ρ) w
  | [], k, σ, σ', [], ht, _, ρ0, hQ, Z, π, ρ, w, hk, h => by
    have ht : σ' = σ := ht
    subst ht
    exact hQ Z π ρ w hk h
  | o :: os, k, σ, σ', e :: es, ht, hops, ρ0, hQ, Z, π, ρ, w, hk, h => by
    rw [List.length_cons, List.range'_succ, wpOps_cons]
    have ho : ops[k]? = some o := by simpa using hops 0 o rfl
    refine e15 hU hΦ hT hS hC ho h ht.1 fun Z' π' u w' hR => ?_
    exact d2c hU hΦ hT hS hC os (k + 1) _ σ' es ht.2 (fun j o' ho' => by have := hops (j + 1) o' (by simpa using ho'); rwa [show k + (j + 1) = k + 1 + j by omega] at this) ρ0 hQ Z' π' _ w' (fun t ht' => by
      rw [d1y, if_neg (by rw [ht.1.1]; exact ht' o (List.mem_of_getElem? ho))]; exact hk t ht') hR
  | [], _, _, _, _ :: _, h, _, _, _, _, _, _, _, _, _ => h.elim
  | _ :: _, _, _, _, [], h, _, _, _, _, _, _, _, _, _ => h.elim
def c1p (L : Nat -> Bool) : Nat -> List (En U) -> U.St -> U.St
  | _, [], σ => σ
  | k, e :: es, σ => c1p L (k + 1) es (if L k = true then σ.app e.d e.v e.ws else σ)
theorem b5r {L : Nat -> Bool} : ∀ (es : List (En U)) (k : Nat) (σ : U.St), (∀ i, k <= i -> L i = false) -> c1p L k es σ = σ
  | [], _, _, _ => rfl
  | e :: es, k, σ, h => by
    simp only [c1p, h k (Nat.le_refl _)]
    exact b5r es (k + 1) σ fun i hi => h i (by omega)
theorem d2l {C : RegC} {L : Nat -> Bool} : ∀ (os : List Oper) (k : Nat) (σ σ' : U.St) (es : List (En U)), Tr P Φ C k os σ es σ' -> (∀ j, j < os.length -> L (k + j) = true) -> c1p L k es σ = σ'
  | [], k, σ, σ', [], ht, _ => by have ht : σ' = σ := ht; rw [ht]; rfl
  | o :: os, k, σ, σ', e :: es, ht, hL => by
    have h0 := hL 0 (by simp)
    simp only [Nat.add_zero] at h0
    simp only [c1p, h0, if_true]
    exact d2l os (k + 1) _ σ' es ht.2 fun j hj => by
      have := hL (j + 1) (by simpa using hj)
      rwa [show k + (j + 1) = k + 1 + j by omega] at this
  | [], _, _, _, _ :: _, h, _ => h.elim
  | _ :: _, _, _, _, [], h, _ => h.elim
theorem d44 {C : RegC} : ∀ (os : List Oper) (k : Nat) (σ σ' : U.St) (es : List (En U)), Tr P Φ C k os σ es σ' -> ∀ (j : Nat) (o : Oper) (e : En U), os[j]? = some o -> es[j]? = some e -> c35 P Φ C (k + j) o (c1p (fun i => decide (i < k + j)) k es σ) e
  | [], k, σ, σ', [], ht, j, o, e, ho, _ => by simp at ho
  | o0 :: os, k, σ, σ', e0 :: es, ht, 0, o, e, ho, he => by
    simp at ho he
    subst ho; subst he
    rw [b5r _ _ _ fun i hi => by simp; omega]
    exact ht.1
  | o0 :: os, k, σ, σ', e0 :: es, ht, j + 1, o, e, ho, he => by
    have := d44 os (k + 1) _ σ' es ht.2 j o e (by simpa using ho) (by simpa using he)
    have h0 : decide (k < k + (j + 1)) = true := by simp
    simp only [c1p, h0, if_true]
    rwa [show k + 1 + j = k + (j + 1) by omega] at this
  | [], _, _, _, _ :: _, h, _, _, _, _, _ => h.elim
  | _ :: _, _, _, _, [], h, _, _, _, _, _ => h.elim
theorem b9u {L L' : Nat -> Bool} (t : Nat) : ∀ (es : List (En U)) (k : Nat) (σ σ' : U.St), σ.slot t = σ'.slot t -> (∀ (j : Nat) (e : En U), es[j]? = some e -> e.d = some t -> L (k + j) = L' (k + j)) -> (c1p L k es σ).slot t = (c1p L' k es σ').slot t
  | [], k, σ, σ', h, _ => h
  | e :: es, k, σ, σ', h, hL => by
    refine b9u t es (k + 1) _ _ ?_ fun j e' he' hd => by
      have := hL (j + 1) e' (by simpa using he') hd
      rwa [show k + (j + 1) = k + 1 + j by omega] at this
    by_cases hd : e.d = some t
    . have := hL 0 e rfl hd
      simp only [Nat.add_zero] at this
      rw [this]
      split
      . rw [a3d, a3d, if_pos hd, if_pos hd]
      . exact h
    . have h1 : ∀ (b : Bool) (σ : U.St), (if b = true then σ.app e.d e.v e.ws else σ).slot t = σ.slot t := fun b σ => by
        split
        . rw [a3d, if_neg hd]
        . rfl
      rw [h1, h1]; exact h
theorem c1o {L L' : Nat -> Bool} (id : Nat) : ∀ (es : List (En U)) (k : Nat) (σ σ' : U.St), σ.mem id = σ'.mem id -> (∀ (j : Nat) (e : En U) m, es[j]? = some e -> lk id e.ws = some m -> L (k + j) = L' (k + j)) -> (c1p L k es σ).mem id = (c1p L' k es σ').mem id
  | [], k, σ, σ', h, _ => h
  | e :: es, k, σ, σ', h, hL => by
    refine c1o id es (k + 1) _ _ ?_ fun j e' m he' hd => by
      have := hL (j + 1) e' m (by simpa using he') hd
      rwa [show k + (j + 1) = k + 1 + j by omega] at this
    cases hd : lk id e.ws with
    | some m =>
      have := hL 0 e m rfl hd
      simp only [Nat.add_zero] at this
      rw [this]
      split
      . rw [a2e, a2e, hd]
      . exact h
    | none =>
      have h1 : ∀ (b : Bool) (σ : U.St), (if b = true then σ.app e.d e.v e.ws else σ).mem id = σ.mem id := fun b σ => by
        split
        . rw [a2e, hd]
        . rfl
      rw [h1, h1]; exact h
theorem c5j {L : Nat -> Bool} (t : Nat) : ∀ (es : List (En U)) (k p : Nat) (σ : U.St) (e : En U), es[p]? = some e -> L (k + p) = true -> e.d = some t -> (∀ (j : Nat) (e' : En U), p < j -> es[j]? = some e' -> e'.d = some t -> L (k + j) = false) -> (c1p L k es σ).slot t = e.v
  | [], k, p, σ, e, he, _, _, _ => by simp at he
  | e0 :: es, k, 0, σ, e, he, hL, hd, hno => by
    simp at he
    subst he
    simp only [Nat.add_zero] at hL
    simp only [c1p, hL, if_true]
    rw [b9u (L' := fun _ => false) t es (k + 1) _ (σ.app e0.d e0.v e0.ws) rfl fun j e' he' hd' => by
      have := hno (j + 1) e' (by omega) (by simpa using he') hd'
      rwa [show k + (j + 1) = k + 1 + j by omega] at this]
    rw [b5r _ _ _ fun _ _ => rfl, a3d, if_pos hd]
  | e0 :: es, k, p + 1, σ, e, he, hL, hd, hno => by
    simp only [c1p]
    refine c5j t es (k + 1) p _ e (by simpa using he) (by rwa [show k + 1 + p = k + (p + 1) by omega]) hd fun j e' hj he' hd' => ?_
    have := hno (j + 1) e' (by omega) (by simpa using he') hd'
    rwa [show k + (j + 1) = k + 1 + j by omega] at this
theorem c54 {L : Nat -> Bool} (id : Nat) : ∀ (es : List (En U)) (k p : Nat) (σ : U.St) (e : En U) (m : U.MC), es[p]? = some e -> L (k + p) = true -> lk id e.ws = some m -> (∀ (j : Nat) (e' : En U) m', p < j -> es[j]? = some e' -> lk id e'.ws = some m' -> L (k + j) = false) -> (c1p L k es σ).mem id = m
  | [], k, p, σ, e, m, he, _, _, _ => by simp at he
  | e0 :: es, k, 0, σ, e, m, he, hL, hd, hno => by
    simp at he
    subst he
    simp only [Nat.add_zero] at hL
    simp only [c1p, hL, if_true]
    rw [c1o (L' := fun _ => false) id es (k + 1) _ (σ.app e0.d e0.v e0.ws) rfl fun j e' m' he' hd' => by
      have := hno (j + 1) e' m' (by omega) (by simpa using he') hd'
      rwa [show k + (j + 1) = k + 1 + j by omega] at this]
    rw [b5r _ _ _ fun _ _ => rfl, a2e, hd]
  | e0 :: es, k, p + 1, σ, e, m, he, hL, hd, hno => by
    simp only [c1p]
    refine c54 id es (k + 1) p _ e m (by simpa using he) (by rwa [show k + 1 + p = k + (p + 1) by omega]) hd fun j e' m' hj he' hd' => ?_
    have := hno (j + 1) e' m' (by omega) (by simpa using he') hd'
    rwa [show k + (j + 1) = k + 1 + j by omega] at this
def b8d (acc : List Nat) (o : Oper) : Nat := o.after.toList.foldl (fun s e => bif Region.binds .any e then s ||| 2 ^ e.on ||| acc.getD e.on 0 else s) 0
theorem c8a {acc : List Nat} {o : Oper} {i : Nat} (h : (b8d acc o).testBit i = true) : ∃ x ∈ o.after, Region.binds .any x = true /\ (x.on = i \/ (acc.getD x.on 0).testBit i = true) := by
  have key : ∀ (l : List Edge) (s : Nat), (l.foldl (fun s e => bif Region.binds .any e then s ||| 2 ^ e.on ||| acc.getD e.on 0 else s) s).testBit i = true -> s.testBit i = true \/ ∃ x ∈ l, Region.binds .any x = true /\ (x.on = i \/ (acc.getD x.on 0).testBit i = true) := by
    intro l
    induction l with
    | nil => intro s h; exact .inl h
    | cons e l ih =>
      intro s h
      rcases ih _ h with h1 | ⟨x, hx, h1⟩
      . dsimp only at h1
        cases hb : Region.binds .any e with
        | false => rw [hb] at h1; exact .inl h1
        | true =>
          rw [hb] at h1
          simp only [cond_true, Nat.testBit_or, Nat.testBit_two_pow, Bool.or_eq_true, decide_eq_true_eq] at h1
          rcases h1 with (h1 | h1) | h1
          . exact .inl h1
          . exact .inr ⟨e, List.mem_cons_self, hb, .inl h1⟩
          . exact .inr ⟨e, List.mem_cons_self, hb, .inr h1⟩
      . exact .inr ⟨x, List.mem_cons_of_mem _ hx, h1⟩
  rcases key _ _ h with h1 | ⟨x, hx, h1⟩
  . simp at h1
  . exact ⟨x, Array.mem_toList_iff.1 hx, h1⟩
theorem d9g : ∀ (os : List Oper) (acc : List Nat) (j : Nat), acc.length <= j -> j < acc.length + os.length -> ∃ acc' o, os[j - acc.length]? = some o /\ (os.foldl (fun acc o => acc ++ [b8d acc o]) acc).getD j 0 = b8d acc' o /\ acc'.length = j /\ ∀ q, q < j -> acc'.getD q 0 = (os.foldl (fun acc o => acc ++ [b8d acc o]) acc).getD q 0
  | [], acc, j, h1, h2 => by simp at h2; omega
  | o :: os, acc, j, h1, h2 => by
    have pre : ∀ (os : List Oper) (acc : List Nat) (q : Nat), q < acc.length -> (os.foldl (fun acc o => acc ++ [b8d acc o]) acc).getD q 0 = acc.getD q 0 := by
      intro os
      induction os with
      | nil => intro acc q hq; rfl
      | cons o os ih =>
        intro acc q hq
        simp only [List.foldl_cons]
        rw [ih _ q (by simp; omega)]
        simp [List.getD_eq_getElem?_getD, List.getElem?_append_left hq]
    simp only [List.foldl_cons]
    rcases Nat.lt_or_ge acc.length j with hj | hj
    . obtain ⟨acc', o', g1, g2, g3, g4⟩ := d9g os (acc ++ [b8d acc o]) j (by simp; omega) (by simp at h2 ⊢; omega)
      refine ⟨acc', o', ?_, g2, g3, g4⟩
      simp only [List.length_append, List.length_singleton] at g1
      rw [show j - acc.length = (j - (acc.length + 1)) + 1 by omega]
      simpa using g1
    . have hje : j = acc.length := by omega
      subst hje
      refine ⟨acc, o, by simp, ?_, rfl, fun q hq => ?_⟩
      . rw [pre _ _ _ (by simp)]
        simp [List.getD_eq_getElem?_getD]
      . rw [pre _ _ _ (by simp; omega)]
        simp [List.getD_eq_getElem?_getD, List.getElem?_append_left hq]
theorem d9b {i j : Nat} (hj : j < ops.length) (h : ((f0h ops).getD j 0).testBit i = true) : ∃ o, ops[j]? = some o /\ ∃ x ∈ o.after, Region.binds .any x = true /\ (x.on = i \/ (x.on < j /\ ((f0h ops).getD x.on 0).testBit i = true)) := by
  obtain ⟨acc', o, h1, h2, h3, h4⟩ := d9g ops [] j (Nat.zero_le _) (by simpa using hj)
  have e : f0h ops = ops.foldl (fun acc o => acc ++ [b8d acc o]) [] := d3k ops []
  rw [e] at h
  rw [h2] at h
  obtain ⟨x, hx, hb, hh⟩ := c8a h
  refine ⟨o, by simpa using h1, x, hx, hb, ?_⟩
  rcases hh with hh | hh
  . exact .inl hh
  . right
    rcases Nat.lt_or_ge x.on j with hlt | hge
    . refine ⟨hlt, ?_⟩
      rw [e, <- h4 _ hlt]; exact hh
    . rw [List.getD_eq_getElem?_getD, List.getElem?_eq_none (by omega)] at hh
      simp at hh
theorem c3j {L : Nat -> Prop} (hL : ∀ j o, ops[j]? = some o -> L j -> ∀ x ∈ o.after, Region.binds .any x = true -> L x.on) (hlen : ∀ j, L j -> j < ops.length) : ∀ (j i : Nat), j < ops.length -> (∀ o, ops[j]? = some o -> ∀ x ∈ o.after, Region.binds .any x = true -> L x.on) -> ((f0h ops).getD j 0).testBit i = true -> L i := by
  intro j
  induction j using Nat.strongRecOn with
  | _ j ih =>
    intro i hj hp h
    obtain ⟨o, ho, x, hx, hb, hh⟩ := d9b hj h
    have hxL := hp o ho x hx hb
    rcases hh with hh | ⟨hlt, hh⟩
    . rw [<- hh]; exact hxL
    . exact ih x.on hlt i (hlen _ hxL) (fun o' ho' => hL _ o' ho' hxL) hh
theorem c3n {C : RegC} : ∀ (lg hist : List (Nat × Nat × Nat)), b1p C lg hist = true -> ∀ (j : Nat) g, lg[j]? = some g -> d1p (C.bef.getD g.1 0) g.2.1 g.2.2 hist = true /\ ∀ (i : Nat) g', i < j -> lg[i]? = some g' -> (C.bef.getD g.1 0).testBit g'.1 = true \/ (g.2.2 &&& (g'.2.1 ||| g'.2.2) = 0 /\ g'.2.2 &&& g.2.1 = 0)
  | [], hist, _, j, g, hg => by simp at hg
  | e :: lg, hist, h, 0, g, hg => by
    simp at hg
    subst hg
    simp only [b1p, Bool.and_eq_true] at h
    exact ⟨h.1, fun i g' hi => absurd hi (Nat.not_lt_zero _)⟩
  | e :: lg, hist, h, j + 1, g, hg => by
    simp only [b1p, Bool.and_eq_true] at h
    obtain ⟨h1, h2⟩ := c3n lg (e :: hist) h.2 j g (by simpa using hg)
    unfold d1p at h1
    simp only [List.all_cons, Bool.and_eq_true, Bool.or_eq_true] at h1
    refine ⟨h1.2, fun i g' hi hg' => ?_⟩
    cases i with
    | zero =>
      simp at hg'
      subst hg'
      rcases h1.1 with h3 | h3
      . exact .inl h3
      . exact .inr ⟨Nat.eq_of_beq_eq_true h3.1, Nat.eq_of_beq_eq_true h3.2⟩
    | succ i => exact h2 i g' (by omega) (by simpa using hg')
end
end Go.SX
namespace Go.SX
open Go Go.PL
section
variable {P : Program} {U : Uni} {Φ : Phi U} {E : Env} {n : Nat} {ops : List Oper}
theorem d3j {a b k : Nat} (h : a &&& b = 0) (ha : a.testBit k = true) (hb : b.testBit k = true) : False := by
  have : (a &&& b).testBit k = true := by rw [Nat.testBit_and, ha, hb]; rfl
  rw [h] at this; simp at this
structure LogOK (C : RegC) (es : List (En U)) (lg : List (Nat × Nat × Nat)) : Prop where
  len : lg.length = es.length
  at_ : ∀ (j : Nat) (e : En U) (g : Nat × Nat × Nat), es[j]? = some e -> lg[j]? = some g -> g.1 = j /\ Sub e.m g.2.1 /\ f5g e g.2.2
  ok : b1p C lg [] = true
theorem LogOK.pair {C : RegC} {es : List (En U)} {lg : List (Nat × Nat × Nat)} (h : LogOK C es lg) {i j : Nat} {ei ej : En U} (hij : i < j) (hi : es[i]? = some ei) (hj : es[j]? = some ej) :
    (C.bef.getD j 0).testBit i = true \/ ∀ k, ((∃ m, k = 2 * m /\ ej.d = some m) \/ (∃ id m, k = 2 * id + 1 /\ lk id ej.ws = some m) -> ei.m.testBit k = true \/ (∃ m, k = 2 * m /\ ei.d = some m) \/ (∃ id m, k = 2 * id + 1 /\ lk id ei.ws = some m) -> False) /\ ((∃ m, k = 2 * m /\ ei.d = some m) \/ (∃ id m, k = 2 * id + 1 /\ lk id ei.ws = some m) -> ej.m.testBit k = true -> False) := by
  have hli : i < lg.length := by rw [h.len]; exact (List.getElem?_eq_some_iff.1 hi).1
  have hlj : j < lg.length := by rw [h.len]; exact (List.getElem?_eq_some_iff.1 hj).1
  obtain ⟨a1, a2, a3⟩ := h.at_ i ei _ hi (List.getElem?_eq_getElem hli)
  obtain ⟨b1, b2, b3⟩ := h.at_ j ej _ hj (List.getElem?_eq_getElem hlj)
  have hp := (c3n lg [] h.ok j _ (List.getElem?_eq_getElem hlj)).2 i _ hij (List.getElem?_eq_getElem hli)
  rw [a1, b1] at hp
  have wbit : ∀ {e : En U} {w k : Nat}, f5g e w -> ((∃ m, k = 2 * m /\ e.d = some m) \/ (∃ id m, k = 2 * id + 1 /\ lk id e.ws = some m)) -> w.testBit k = true := by
    intro e w k hw hk
    rcases hk with ⟨m, rfl, hm⟩ | ⟨id, m, rfl, hm⟩
    . exact hw.1 m hm
    . exact hw.2 id m hm
  rcases hp with hp | ⟨h1, h2⟩
  . exact .inl hp
  . refine .inr fun k => ⟨fun hw hr => ?_, fun hw hr => ?_⟩
    . refine d3j h1 (wbit b3 hw) ?_
      rw [Nat.testBit_or]
      rcases hr with hr | hr
      . rw [a2 k hr]; rfl
      . rw [wbit a3 hr]; simp
    . exact d3j h2 (wbit a3 hw) (b2 k hr)
theorem e4r (hU : UOK U) (hΦ : OKΦ P Φ) (hT : Plan.okTmps ops n = true) (hS : Plan.okSel ops = true) (hA : Plan.okAfter ops = true) {C : RegC} (hC : C.ops = ops) (hB : C.bef = f0h ops) {σ0 σn : U.St} {es : List (En U)} {lg : List (Nat × Nat × Nat)} (ht : Tr P Φ C 0 ops σ0 es σn) (hlg : LogOK C es lg)
    {Q : Exit -> Act -> World -> Prop} {ρ0 : Nat -> Value} (hQ : ∀ Z π ρ w, (∀ t, (∀ o ∈ ops, o.dst ≠ some t) -> ρ t = ρ0 t) -> Rel E Z π σn ρ w -> Q .normal (Fr n ρ) w) :
    ∀ (fuel : Nat) (listed : Array Bool) (ρ : Nat -> Value) (w : World), listed.size = ops.length -> (∀ l : List Nat, l.Nodup -> (∀ i ∈ l, listed.getD i true = false) -> l.length <= fuel) ->
      (∀ (j : Nat) (o : Oper), ops[j]? = some o -> listed.getD j false = true -> ∀ x ∈ o.after, Region.binds .any x = true -> listed.getD x.on false = true) ->
      (∀ t, (∀ o ∈ ops, o.dst ≠ some t) -> ρ t = ρ0 t) -> (∃ Z π, Rel E Z π (c1p (fun k => listed.getD k false) 0 es σ0) ρ w) -> wpAny P .any ops.toArray Q fuel listed (Fr n ρ) w := by
  have hall : ∀ (listed : Array Bool), listed.size = ops.length -> Region.ready .any ops.toArray listed = [] -> ∀ i, i < ops.length -> listed.getD i false = true := by
    intro listed hsz hr i
    induction i using Nat.strongRecOn with
    | _ i ih =>
      intro hi
      cases hl : listed.getD i false with
      | true => rfl
      | false =>
        exfalso
        have hi' : i < listed.size := by omega
        have hm : i ∈ Region.ready .any ops.toArray listed := by
          rw [mem_ready]
          refine ⟨by simp [hi'] at hl ⊢; exact hl, ops[i], by simp [hi], fun x hx hb => ?_⟩
          have h1 := d76 hA hi
          rw [List.getElem?_eq_getElem hi] at h1
          have h2 := List.all_eq_true.1 h1 x (Array.mem_toList_iff.2 hx)
          simp only [hb, Bool.not_true, Bool.false_or, decide_eq_true_eq] at h2
          exact ih x.on h2 (by omega)
        rw [hr] at hm
        cases hm
  have hend : ∀ (listed : Array Bool) (ρ : Nat -> Value) (w : World), listed.size = ops.length -> Region.ready .any ops.toArray listed = [] ->
      (∀ t, (∀ o ∈ ops, o.dst ≠ some t) -> ρ t = ρ0 t) -> (∃ Z π, Rel E Z π (c1p (fun k => listed.getD k false) 0 es σ0) ρ w) -> Q .normal (Fr n ρ) w := by
    rintro listed ρ w hsz hr hk ⟨Z, π, hR⟩
    rw [d2l ops 0 σ0 σn es ht fun j hj => by simpa using hall listed hsz hr j hj] at hR
    exact hQ Z π ρ w hk hR
  intro fuel
  induction fuel with
  | zero =>
    intro listed ρ w hsz hlen hcl hk hJ
    have hr : Region.ready .any ops.toArray listed = [] := by
      cases hr : Region.ready .any ops.toArray listed with
      | nil => rfl
      | cons x xs =>
        have hx : x ∈ Region.ready .any ops.toArray listed := by rw [hr]; simp
        have := hlen [x] (by simp) (by simpa using (mem_ready.1 hx).1)
        simp at this
    exact ⟨hr, hend listed ρ w hsz hr hk hJ⟩
  | succ fuel ih =>
    intro listed ρ w hsz hlen hcl hk hJ
    refine ⟨fun hr => hend listed ρ w hsz hr hk hJ, fun i hi => ?_⟩
    obtain ⟨hun, o, ho, haft⟩ := mem_ready.1 hi
    have ho' : ops[i]? = some o := by simpa using ho
    have hilt : i < ops.length := (List.getElem?_eq_some_iff.1 ho').1
    have hil : i < listed.size := by rw [hsz]; exact hilt
    have hunl : listed.getD i false = false := by simp [hil] at hun ⊢; exact hun
    obtain ⟨Z, π, hR⟩ := hJ
    have hilt' : i < es.length := by rw [ht.len]; exact hilt
    obtain ⟨e, he⟩ : ∃ e, es[i]? = some e := ⟨es[i], List.getElem?_eq_getElem hilt'⟩
    have hex := d44 ops 0 σ0 σn es ht i o e ho' he
    rw [Nat.zero_add] at hex
    have hblt : ∀ j, listed.getD j false = true -> j < ops.length := fun j hj => by
      rcases Nat.lt_or_ge j listed.size with h1 | h1
      . omega
      . simp [Array.getD, Nat.not_lt.2 h1] at hj
    have hpre : ∀ j, (C.bef.getD i 0).testBit j = true -> listed.getD j false = true := fun j hj => by
      rw [hB] at hj
      refine c3j (L := fun k => listed.getD k false = true) hcl hblt i j hilt (fun o' ho'' => ?_) hj
      rw [ho'] at ho''; cases ho''
      intro x hx hb
      exact haft x hx hb
    have hpost : ∀ j, j < ops.length -> (C.bef.getD j 0).testBit i = true -> listed.getD j false = false := fun j hj hb => by
      cases hl : listed.getD j false with
      | false => rfl
      | true =>
        rw [hB] at hb
        have := c3j (L := fun k => listed.getD k false = true) hcl hblt j i hj (fun o' ho'' => hcl j o' ho'' hl) hb
        rw [hunl] at this; cases this
    have hjlt : ∀ (j : Nat) (e' : En U), es[j]? = some e' -> j < ops.length := fun j e' h => by rw [<- ht.len]; exact (List.getElem?_eq_some_iff.1 h).1
    have hagr : f2e (c1p (fun k => decide (k < i)) 0 es σ0) (c1p (fun k => listed.getD k false) 0 es σ0) e.m := by
      have main : ∀ (k j : Nat) (e' : En U), es[j]? = some e' -> ((∃ m, k = 2 * m /\ e'.d = some m) \/ (∃ id m, k = 2 * id + 1 /\ lk id e'.ws = some m)) -> e.m.testBit k = true -> listed.getD j false = decide (j < i) := by
        intro k j e' hj hw hr
        rcases Nat.lt_trichotomy j i with hlt | heq | hgt
        . rcases hlg.pair hlt hj he with h1 | h1
          . rw [hpre j h1]; simp [hlt]
          . exact ((h1 k).2 hw hr).elim
        . rw [heq, hunl]; simp
        . rcases hlg.pair hgt he hj with h1 | h1
          . rw [hpost j (hjlt j e' hj) h1]; simp; omega
          . exact ((h1 k).1 hw (.inl hr)).elim
      refine ⟨fun t hb => b9u t es 0 σ0 σ0 rfl fun j e' hj hd => ?_, fun id hb => c1o id es 0 σ0 σ0 rfl fun j e' m hj hd => ?_⟩
      . rw [Nat.zero_add]; exact main (2 * t) j e' hj (.inl ⟨t, rfl, hd⟩) hb
      . rw [Nat.zero_add]; exact main (2 * id + 1) j e' hj (.inr ⟨id, m, rfl, hd⟩) hb
    have hstep : c35 P Φ C i o (c1p (fun k => listed.getD k false) 0 es σ0) e := by
      refine ⟨hex.1, ?_⟩
      rcases hex.2 with h1 | h1
      . exact .inl (d2m h1 hagr)
      . exact .inr (d2m h1 hagr)
    refine e15 hU hΦ hT hS hC ho' hR hstep fun Z' π' u w' hR' => ?_
    have heq : ∀ k, (listed.setIfInBounds i true).getD k false = if k = i then true else listed.getD k false := by
      intro k
      by_cases hk : k = i
      . subst hk; simp [hil]
      . rw [getD_set_ne false (Ne.symm hk)]; simp [hk]
    have hww : ∀ (k j : Nat) (e' : En U), i < j -> es[j]? = some e' -> ((∃ m, k = 2 * m /\ e'.d = some m) \/ (∃ id m, k = 2 * id + 1 /\ lk id e'.ws = some m)) -> ((∃ m, k = 2 * m /\ e.d = some m) \/ (∃ id m, k = 2 * id + 1 /\ lk id e.ws = some m)) -> listed.getD j false = false := by
      intro k j e' hlt hj hw hw2
      rcases hlg.pair hlt he hj with h1 | h1
      . exact hpost j (hjlt j e' hj) h1
      . exact ((h1 k).1 hw (.inr hw2)).elim
    have hless : d4v (c1p (fun k => (listed.setIfInBounds i true).getD k false) 0 es σ0) ((c1p (fun k => listed.getD k false) 0 es σ0).app e.d e.v e.ws) := by
      refine ⟨fun t => .inr ?_, fun id => ?_⟩
      . rw [a3d]
        split
        . rename_i hd
          rw [c5j t es 0 i σ0 e he (by rw [Nat.zero_add, heq]; simp) hd fun j e' hj he' hd' => ?_]
          rw [Nat.zero_add, heq, if_neg (by omega)]
          exact hww (2 * t) j e' hj he' (.inl ⟨t, rfl, hd'⟩) (.inl ⟨t, rfl, hd⟩)
        . rename_i hd
          refine b9u t es 0 σ0 σ0 rfl fun j e' hj hd' => ?_
          rw [Nat.zero_add, heq, if_neg]
          intro hji
          subst hji
          rw [he] at hj; cases hj
          exact hd hd'
      . rw [a2e]
        cases hd : lk id e.ws with
        | some m =>
          refine (c54 id es 0 i σ0 e m he (by rw [Nat.zero_add, heq]; simp) hd fun j e' m' hj he' hd' => ?_).symm
          rw [Nat.zero_add, heq, if_neg (by omega)]
          exact hww (2 * id + 1) j e' hj he' (.inr ⟨id, m', rfl, hd'⟩) (.inr ⟨id, m, rfl, hd⟩)
        | none =>
          refine (c1o id es 0 σ0 σ0 rfl fun j e' m' hj hd' => ?_).symm
          rw [Nat.zero_add, heq, if_neg]
          intro hji
          subst hji
          rw [he] at hj; cases hj
          rw [hd] at hd'; cases hd'
    refine ih _ _ _ (by simpa using hsz) (fun l hnd hl => ?_) (fun j o' hoj hlj x hx hb => ?_) (fun t ht' => by
      rw [d1y, if_neg (by rw [hstep.1]; exact ht' o (List.mem_of_getElem? ho'))]; exact hk t ht') ⟨Z', π', hR'.congr hless⟩
    . have h1 := hlen (i :: l) (by
        refine List.nodup_cons.2 ⟨fun hm => ?_, hnd⟩
        have := hl i hm
        simp [hil] at this) (by
        intro j hj
        cases hj with
        | head => exact hun
        | tail _ hj =>
          have h2 := hl j hj
          by_cases hji : j = i
          . subst hji; exact hun
          . rwa [getD_set_ne true (Ne.symm hji)] at h2)
      simpa using h1
    . rw [heq] at hlj ⊢
      split
      . rfl
      . split at hlj
        . rename_i hji
          subst hji
          rw [ho'] at hoj; cases hoj
          exact haft x hx hb
        . exact hcl j o' hoj hlj x hx hb
theorem d7f (hU : UOK U) (hΦ : OKΦ P Φ) (hm : P.follows .mixedOrders = true) (hT : Plan.okTmps ops n = true) (hS : Plan.okSel ops = true) (hA : Plan.okAfter ops = true) {id : Nat} {draw : Bool} {R : Type} {σ : U.St} {K : U.St -> Option R} {r : R} {sp : List Nat} (h : c9l P Φ sp ops draw σ K = some r)
    {Q : Exit -> (Nat -> Value) -> World -> Prop} {Z : Nat -> Prop} {π : Nat -> Value} {ρ : Nat -> Value} {w : World} (hK : ∀ σ' Z π ρ' w, (∀ t, (∀ o ∈ ops, o.dst ≠ some t) -> ρ' t = ρ t) -> Rel E Z π σ' ρ' w -> K σ' = some r -> Q .normal ρ' w) (hR : Rel E Z π σ ρ w) : WP P n (.region id ops.toArray draw) Q ρ w := by
  obtain ⟨C, hC⟩ : ∃ C : RegC, C = ⟨σ.nx, ops, befD ops draw, draw, σ.nx + 16 * ops.length, sp⟩ := ⟨_, rfl⟩
  have hrun : b1f P Φ C (ops.length + 1) (a8x 0 ops) [] [] σ (fun _ σ' => K ⟨σ'.sl, σ'.me, σ.nx + 16 * ops.length⟩) = some r := by rw [hC]; exact h
  obtain ⟨es, σx, σe, hist, h1, h2, h3, h4, ⟨lg, h5, h6, h7, h8⟩, hkp⟩ := a6n _ 0 ops [] [] σ _ r hrun (fun j o ho => by rw [hC, Nat.zero_add]; exact ho) σ ⟨fun t => .inr rfl, fun _ => rfl⟩ b6y.nil
  have hops : C.ops = ops := by rw [hC]
  have hfin : ∀ Z π ρ1 w, (∀ t, (∀ o ∈ ops, o.dst ≠ some t) -> ρ1 t = ρ t) -> Rel E Z π σx ρ1 w -> (∃ ρ', Fr n ρ1 = Fr n ρ' /\ Q .normal ρ' w) := fun Z π ρ1 w hk hR => by
    refine ⟨ρ1, rfl, hK ⟨σe.sl, σe.me, σ.nx + 16 * ops.length⟩ Z π ρ1 w hk (Rel.congr hR (σ' := ⟨σe.sl, σe.me, σ.nx + 16 * ops.length⟩) ⟨fun t => ?_, fun id => ?_⟩) h4⟩
    . exact h2.1 t
    . exact h2.2 id
  cases draw with
  | false =>
    refine wp_region ?_
    have := d2c (n := n) (Q := fun e a w => ∃ ρ', a = Fr n ρ' /\ Q e ρ' w) hU hΦ hT hS hops ops 0 σ σx es h1 (fun j o ho => by rw [Nat.zero_add]; exact ho) ρ hfin Z π ρ w (fun _ _ => rfl) hR
    rw [List.range_eq_range']
    simpa using this
  | true =>
    refine wp_region_any hm ?_
    have hdraw : C.draw = true := by rw [hC]
    have := e4r (n := n) (Q := fun e a w => ∃ ρ', a = Fr n ρ' /\ Q e ρ' w) hU hΦ hT hS hA hops (by rw [hC]; rfl) h1 ⟨h7, fun j e g he hg => by have := h8 j e g he hg; rwa [Nat.zero_add] at this, h6 hdraw⟩ (ρ0 := ρ) hfin
      ops.length (Array.replicate ops.length false) ρ w.drew (by simp) (fun l hnd hl => by
        have hlt : ∀ i ∈ l, i < ops.length := by
          intro i hi
          have h1 := hl i hi
          rcases Nat.lt_or_ge i ops.length with h2 | h2
          . exact h2
          . simp [h2] at h1
        exact b5p _ l hnd hlt) (fun j o ho hl => by
          exfalso
          rcases Nat.lt_or_ge j ops.length with h2 | h2
          . simp [h2] at hl
          . simp [h2] at hl) (fun _ _ => rfl) ⟨Z, π, by
          rw [b5r _ _ _ fun i _ => by
            rcases Nat.lt_or_ge i ops.length with h2 | h2
            . simp [h2]
            . simp [h2]]
          have hv := hR.val (d := none) (a := .unk) (v := undef) (w' := w.drew) (Ext.refl noG w).drew trivial
          exact hv⟩
    rw [show ops.toArray.size = ops.length from List.size_toArray]
    exact this
end
end Go.SX
